/-
 The typed layer, part 1: typed values, rows, objects. Definitions alone.
-/
import Derived.Test.YtbdbmfccbpfeoaaGreatDoorLd
import Derived.Test.YtbdbmfccbpfeoaaGreatDoorLc
namespace Go.Ab
inductive Dat where
 |lin (x:Lin)
 |RF (x:BA)
 |rule (x:Rule)
 |fM (x:aB)
 |cnt (x:Cnt)
 |prop (x:Prop')
 |clause (x:Clause)
 |elem (x:Elem)
@[reducible] def abN(l:List Bool):T:=.sl 0 false (l.map T.bool)
@[reducible] def abO(l:List (List Int)):T:=.sl 0 false (l.map Go.Ab.ints)
inductive Rw where
 |ints (l:List Int)
 |bools (l:List Bool)
 |strs (l:List Str)
 |dV (l:List (List Int))
 |mM (l:List (List Bool))
 |mO (l:List (List (List Int)))
 |Ci (l:List Lin)
 |rC (l:List BA)
 |rules (l:List Rule)
 |cnts (l:List Cnt)
 |clauses (l:List Clause)
 |elems (l:List Elem)
 |nil
inductive V where
 |int (n:Int)
 |bool (b:Bool)
 |u8 (n:Int)
 |str (s:Str)
 |dat (d:Dat)
 |agg (l:List V)
 |row (k:Nat) (full:Bool) (r:Rw)
 |Cj (k:Nat) (full:Bool) (l:List V)
 |ref (k:Nat) (v:V)
 |own (i:Nat)
 |inn (i:Nat)
 |pin (i j off:Nat)
 |ptr (i j off:Nat)
 |oG (i lo hi:Nat)
 |fn (f:FuncId) (cap:List V)
 |bU (l:List V)
 |cnd (b:Bool) (v:V)
 |raw (t:T)
def Dat.aI:Dat->T
 | .lin x=>Om x
 | .RF x=>Oo x
 | .rule x=>Hl x
 | .fM x=>XM x
 | .cnt x=>Oq x
 | .prop x=>abL x
 | .clause x=>Ho x
 | .elem x=>fG x
def Dat.kd:Dat->Nat
 | .lin _=>5
 | .RF _=>7
 | .rule _=>19
 | .fM _=>11
 | .cnt _=>3
 | .prop _=>7
 | .clause _=>4
 | .elem _=>3
def Rw.aQ:Rw->List T
 | .ints l=>l.map T.int
 | .bools l=>l.map T.bool
 | .strs l=>l.map eS
 | .dV l=>l.map Go.Ab.ints
 | .mM l=>l.map abN
 | .mO l=>l.map abO
 | .Ci l=>l.map Om
 | .rC l=>l.map Oo
 | .rules l=>l.map Hl
 | .cnts l=>l.map Oq
 | .clauses l=>l.map Ho
 | .elems l=>l.map fG
 | .nil=>[]
mutual
def V.aI:V->T
 | .int n=>.int n
 | .bool b=>.bool b
 | .u8 n=>.lit (.int .u8 n)
 | .str s=>eS s
 | .dat d=>d.aI
 | .agg l=>.agg (V.aQ l)
 | .row k f r=>.sl k f r.aQ
 | .Cj k f l=>.sl k f (V.aQ l)
 | .ref k v=>.ref k v.aI
 | .own i=>.own i
 | .inn i=>.own i
 | .pin i j off=>.ptr i j off
 | .ptr i j off=>.ptr i j off
 | .oG i lo hi=>.oG i lo hi
 | .fn f cap=>.fn f (V.aQ cap)
 | .bU l=>.bU (V.aQ l)
 | .cnd b v=>bif b then v.aI else T.un
 | .raw t=>t
def V.aQ:List V->List T
 |[]=>[]
 |v::r=>v.aI::V.aQ r
end
def Dat.cells:Dat->List V
 | .lin x=>[.int x.c,.int x.n,.int x.t,.int x.f]
 | .RF x=>[.int x.message,.int x.Hg,.int x.bound.c,.int x.bound.n,.int x.bound.t,.int x.bound.f]
 | .rule x=>[.str x.name,.int x.kind,.int x.fr,.int x.to,.int x.dZ,.int x.y7,.row 0 false (.ints x.response),.row 7 false (.rC x.guards),.row 0 false (.ints x.ex),.row 0 false (.ints x.all),.int x.read,.int x.write,.row 0 false (.ints x.send),.int x.pos,.row 0 false (.ints x.left),.row 0 false (.ints x.right),.row 0 false (.ints x.parent),.int x.direction]
 | .fM x=>[.str x.name,.int x.topology,.row 0 false (.strs x.states),.row 0 false (.strs x.messages),.row 0 false (.strs x.values),.int x.fault,.row 5 false (.Ci x.bY),.row 0 false (.ints x.initial),.row 0 false (.ints x.leader),.row 19 false (.rules x.rules)]
 | .cnt x=>[.row 0 false (.ints x.states),.int x.least]
 | .prop x=>[.str x.name,.int x.kind,.row 0 false (.ints x.start),.row 3 false (.cnts x.bad),.row 0 false (.ints x.adjacent),.row 0 false (.ints x.goal)]
 | .clause x=>[.row 0 false (.dV x.each),.row 0 false (.ints x.values),.row 0 false (.ints x.some)]
 | .elem x=>[.int x.value,.row 0 false (.ints x.counts)]
theorem Dat.I9(d:Dat):d.aI= .agg (V.aQ d.cells):=by cases d<;>rfl
theorem Dat.ag2(d:Dat):d.aI.kd=d.kd:=by cases d<;>rfl
def Rw.len:Rw->Nat
 | .ints l=>l.length
 | .bools l=>l.length
 | .strs l=>l.length
 | .dV l=>l.length
 | .mM l=>l.length
 | .mO l=>l.length
 | .Ci l=>l.length
 | .rC l=>l.length
 | .rules l=>l.length
 | .cnts l=>l.length
 | .clauses l=>l.length
 | .elems l=>l.length
 | .nil=>0
def Rw.lenV:Rw->V
 | .ints l=>.int l.length
 | .bools l=>.int l.length
 | .strs l=>.int l.length
 | .dV l=>.int l.length
 | .mM l=>.int l.length
 | .mO l=>.int l.length
 | .Ci l=>.int l.length
 | .rC l=>.int l.length
 | .rules l=>.int l.length
 | .cnts l=>.int l.length
 | .clauses l=>.int l.length
 | .elems l=>.int l.length
 | .nil=>.int 0
def Rw.rng(n:Int):Rw->Prop
 | .ints l=>0<=n/\n<l.length
 | .bools l=>0<=n/\n<l.length
 | .strs l=>0<=n/\n<l.length
 | .dV l=>0<=n/\n<l.length
 | .mM l=>0<=n/\n<l.length
 | .mO l=>0<=n/\n<l.length
 | .Ci l=>0<=n/\n<l.length
 | .rC l=>0<=n/\n<l.length
 | .rules l=>0<=n/\n<l.length
 | .cnts l=>0<=n/\n<l.length
 | .clauses l=>0<=n/\n<l.length
 | .elems l=>0<=n/\n<l.length
 | .nil=>False
def Rw.sH(n:Int):Rw->Prop
 | .ints l=>0<=n/\n<=l.length
 | .bools l=>0<=n/\n<=l.length
 | .strs l=>0<=n/\n<=l.length
 | .dV l=>0<=n/\n<=l.length
 | .mM l=>0<=n/\n<=l.length
 | .mO l=>0<=n/\n<=l.length
 | .Ci l=>0<=n/\n<=l.length
 | .rC l=>0<=n/\n<=l.length
 | .rules l=>0<=n/\n<=l.length
 | .cnts l=>0<=n/\n<=l.length
 | .clauses l=>0<=n/\n<=l.length
 | .elems l=>0<=n/\n<=l.length
 | .nil=>n=0
def Rw.get(i:Nat):Rw->V
 | .ints l=>.int (l.getD i 0)
 | .bools l=>.bool (l.getD i false)
 | .strs l=>.str (l.getD i [])
 | .dV l=>.row 0 false (.ints (l.getD i []))
 | .mM l=>.row 0 false (.bools (l.getD i []))
 | .mO l=>.row 0 false (.dV (l.getD i []))
 | .Ci l=>.dat (.lin (l.getD i default))
 | .rC l=>.dat (.RF (l.getD i default))
 | .rules l=>.dat (.rule (l.getD i default))
 | .cnts l=>.dat (.cnt (l.getD i default))
 | .clauses l=>.dat (.clause (l.getD i default))
 | .elems l=>.dat (.elem (l.getD i default))
 | .nil=>.raw .any
def Rw.take(i:Nat):Rw->Rw
 | .ints l=>.ints (l.take i)
 | .bools l=>.bools (l.take i)
 | .strs l=>.strs (l.take i)
 | .dV l=>.dV (l.take i)
 | .mM l=>.mM (l.take i)
 | .mO l=>.mO (l.take i)
 | .Ci l=>.Ci (l.take i)
 | .rC l=>.rC (l.take i)
 | .rules l=>.rules (l.take i)
 | .cnts l=>.cnts (l.take i)
 | .clauses l=>.clauses (l.take i)
 | .elems l=>.elems (l.take i)
 | .nil=>.nil
def Rw.drop(i:Nat):Rw->Rw
 | .ints l=>.ints (l.drop i)
 | .bools l=>.bools (l.drop i)
 | .strs l=>.strs (l.drop i)
 | .dV l=>.dV (l.drop i)
 | .mM l=>.mM (l.drop i)
 | .mO l=>.mO (l.drop i)
 | .Ci l=>.Ci (l.drop i)
 | .rC l=>.rC (l.drop i)
 | .rules l=>.rules (l.drop i)
 | .cnts l=>.cnts (l.drop i)
 | .clauses l=>.clauses (l.drop i)
 | .elems l=>.elems (l.drop i)
 | .nil=>.nil
def Rw.app:Rw->Rw->Option Rw
 |r,.nil=>some r
 | .nil,r=>some r
 | .ints a,.ints b=>some (.ints (a++b))
 | .bools a,.bools b=>some (.bools (a++b))
 | .strs a,.strs b=>some (.strs (a++b))
 | .dV a,.dV b=>some (.dV (a++b))
 | .mM a,.mM b=>some (.mM (a++b))
 | .mO a,.mO b=>some (.mO (a++b))
 | .Ci a,.Ci b=>some (.Ci (a++b))
 | .rC a,.rC b=>some (.rC (a++b))
 | .rules a,.rules b=>some (.rules (a++b))
 | .cnts a,.cnts b=>some (.cnts (a++b))
 | .clauses a,.clauses b=>some (.clauses (a++b))
 | .elems a,.elems b=>some (.elems (a++b))
 |_,_=>none
def Rw.kd:Rw->Nat
 | .ints _=>0
 | .bools _=>0
 | .strs _=>0
 | .dV _=>0
 | .mM _=>0
 | .mO _=>0
 | .Ci _=>5
 | .rC _=>7
 | .rules _=>19
 | .cnts _=>3
 | .clauses _=>4
 | .elems _=>3
 | .nil=>0
def V.one:V->Option Rw
 | .int n=>some (.ints [n])
 | .bool b=>some (.bools [b])
 | .str s=>some (.strs [s])
 | .row 0 false (.ints l)=>some (.dV [l])
 | .row 0 false (.bools l)=>some (.mM [l])
 | .row 0 false (.dV l)=>some (.mO [l])
 | .dat (.lin x)=>some (.Ci [x])
 | .dat (.RF x)=>some (.rC [x])
 | .dat (.rule x)=>some (.rules [x])
 | .dat (.cnt x)=>some (.cnts [x])
 | .dat (.clause x)=>some (.clauses [x])
 | .dat (.elem x)=>some (.elems [x])
 | .agg [.int a,.row 0 false (.ints c)]=>some (.elems [⟨a,c⟩])
 | .agg [.row 0 false (.ints c),.int a]=>some (.cnts [⟨c,a⟩])
 | .agg [.row 0 false (.dV e),.row 0 false (.ints v),.row 0 false (.ints s)]=>some (.clauses [⟨e,v,s⟩])
 |_=>none
def Rw.ofL:List V->Option Rw
 |[]=>some .nil
 |v::r=>match v.one,Rw.ofL r with
  |some a,some b=>a.app b
  |_,_=>none
def Rw.vs:Rw->List V
 | .ints l=>l.map .int
 | .bools l=>l.map .bool
 | .strs l=>l.map .str
 | .dV l=>l.map fun c=>.row 0 false (.ints c)
 | .mM l=>l.map fun c=>.row 0 false (.bools c)
 | .mO l=>l.map fun c=>.row 0 false (.dV c)
 | .Ci l=>l.map fun c=>.dat (.lin c)
 | .rC l=>l.map fun c=>.dat (.RF c)
 | .rules l=>l.map fun c=>.dat (.rule c)
 | .cnts l=>l.map fun c=>.dat (.cnt c)
 | .clauses l=>l.map fun c=>.dat (.clause c)
 | .elems l=>l.map fun c=>.dat (.elem c)
 | .nil=>[]
inductive OV where
 |row (ty k:Nat) (r:Rw) (x:List V)
 |box (ty k:Nat) (v:V)
 |map (ty:Nat) (es:List (Int×List Bool)) (x:List (Int×V))
 |gen (ty k:Nat) (x:List V)
def abP(e:Int×List Bool):T:=.bU [.int e.1,.sl 0 false (e.2.map T.bool)]
def Zy(e:Int×V):T:=.bU [.int e.1,e.2.aI]
def OV.ay:OV->Ob
 | .row ty k r x=>⟨ty,k,r.aQ++V.aQ x⟩
 | .box ty k v=>⟨ty,k,[v.aI]⟩
 | .map ty es x=>⟨ty,iE,es.map abP++x.map Zy⟩
 | .gen ty k x=>⟨ty,k,V.aQ x⟩
abbrev Fm:=List (Nat×V)
def Fm.get(i:Nat):Fm->Option V
 |[]=>none
 |(j,v)::r=>bif Nat.beq j i then some v else Fm.get i r
abbrev Hz:=List (Nat×Option OV)
def Hz.get(i:Nat):Hz->Option OV
 |[]=>none
 |(j,o)::r=>bif Nat.beq j i then o else Hz.get i r
def Hz.au(h:Hz):Hp:=fun i=>(h.get i).map OV.ay
mutual
def Ja:T->V
 | .lit (.int .i64 n)=>.int n
 | .lit (.int .u8 n)=>.u8 n
 | .lit (.bool b)=>.bool b
 | .lit (.string b)=>.str b.data.toList
 | .sl k f []=>.row k f .nil
 | .agg l=>.agg (ofL l)
 | .fn f l=>.fn f (ofL l)
 |t=>.raw t
def ofL:List T->List V
 |[]=>[]
 |t::r=>Ja t::ofL r
end
def V.kd:V->Option Nat
 | .dat d=>some d.kd
 | .agg l=>some (l.length+1)
 | .cnd _ _=>none
 | .raw _=>none
 |_=>some 0
def V.cells:V->Option (List V)
 | .dat d=>some d.cells
 | .agg l=>some l
 | .cnd _ _=>none
 | .raw _=>none
 |v=>some [v]
def V.kW(h:Hz):V->Bool
 | .own i=>(h.get i).isSome
 | .ptr i _ _=>(h.get i).isSome
 | .oG i _ _=>(h.get i).isSome
 | .cnd _ _=>false
 | .raw _=>false
 | .bU _=>false
 | .inn _=>false
 | .pin _ _ _=>false
 |_=>true
def V.part(off:Nat):Nat->V->Option V
 |0,.dat d=>d.cells[off]?
 |0,.agg l=>l[off]?
 |k+1,.dat (.RF x)=>bif (Nat.beq off 2)&&(Nat.beq k 4) then some (.dat (.lin x.bound)) else none
 |k+1,.agg l=>some (.agg ((l.drop off).take k))
 |_,_=>none
inductive VC(p k:Prop):Prop where
 |mk:p->k->VC p k
inductive Fork(b:Bool)(x y:Prop):Prop where
 |mk:(b=true->x)->(b=false->y)->Fork b x y
inductive Sd where
 |no
 |yes (p:Prop)
def Sd.holds:Sd->Prop
 | .no=>True
 | .yes p=>p
def Sd.and:Sd->Sd->Sd
 | .no,b=>b
 |a,.no=>a
 | .yes p,.yes q=>.yes (p/\q)
def Sd.imp(t:Bool)(b:Bool):Sd->Sd
 | .no=>.no
 | .yes p=>.yes (t=b->p)
def Sd.vc(g:Option Bool)(k:Prop):Sd->Prop
 | .no=>k
 | .yes p=>match g with
  |none=>VC p k
  |some b=>VC (b=true->p) k
def V.bare:V->V×Sd
 | .cnd c v=>(v,.yes (c=true))
 |v=>(v,.no)
mutual
def V.free:V->Bool
 | .own _=>false
 | .ptr _ _ _=>false
 | .oG _ _ _=>false
 | .inn _=>false
 | .pin _ _ _=>false
 | .cnd _ _=>false
 | .raw t=>t.free
 | .agg l=>V.bG l
 | .fn _ l=>V.bG l
 | .bU l=>V.bG l
 |_=>true
def V.bG:List V->Bool
 |[]=>true
 |v::r=>V.free v&&V.bG r
end
def Dv(m:Fm):X->Option V
 | .t n=>m.get n
 | .c t=>some (Ja t)
def evL(m:Fm):List X->Option (List V)
 |[]=>some []
 |x::r=>match Dv m x,evL m r with
  |some v,some l=>some (v::l)
  |_,_=>none
abbrev FY:=Option (V×Sd)
def Vk(m:Fm)(x:X)(f:V->FY):FY :=
 match Dv m x with
 |some v=>match v.bare with
  |(u,s)=>match f u with
   |some (r,s')=>some (r,s.and s')
   |none=>none
 |none=>none
def qz2(m:Fm)(x y:X)(f:V->V->FY):FY:=Vk m x fun u=>Vk m y fun v=>f u v
def okI(n:Int):Prop:= -9223372036854775808<=n/\n<9223372036854775808
def Vy(a b:Int):Int:=a.fdiv (2 ^ min b.toNat 64)
theorem CV(a:Int):Vy a 1=a / 2:=by
 show Int.fdiv a 2=_;rw[Int.fdiv_eq_ediv_of_nonneg _ (by decide)]
def ag3(op:BinOp):V->V->FY
 | .int a,.int b=>match op with
  | .add=>some (.int (a+b),.yes (okI (a+b)))
  | .sub=>some (.int (a-b),.yes (okI (a-b)))
  | .mul=>some (.int (a*b),.yes (okI (a*b)))
  | .eql=>some (.bool (a==b),.no)
  | .neq=>some (.bool (a !=b),.no)
  | .lss=>some (.bool (decide (a<b)),.no)
  | .leq=>some (.bool (decide (a<=b)),.no)
  | .gtr=>some (.bool (decide (b<a)),.no)
  | .geq=>some (.bool (decide (b<=a)),.no)
  |_=>none
 | .u8 a,.u8 b=>match op with
  | .eql=>some (.bool (a==b),.no)
  | .neq=>some (.bool (a !=b),.no)
  | .lss=>some (.bool (decide (a<b)),.no)
  | .leq=>some (.bool (decide (a<=b)),.no)
  | .gtr=>some (.bool (decide (b<a)),.no)
  | .geq=>some (.bool (decide (b<=a)),.no)
  |_=>none
 | .str a,.str b=>match op with
  | .eql=>some (.bool (a==b),.no)
  | .neq=>some (.bool (!(a==b)),.no)
  | .add=>some (.str (a++b),.yes (a.length+b.length<=9223372036854775807))
  |_=>none
 | .raw (.lit (.int .u64 a)),.raw (.lit (.int .u64 b))=>match op with
  | .shr=>some (.raw (.lit (.int .u64 (Vy a b))),.yes (0<=b))
  | .and=>some (.raw (.lit (.int .u64 (agB .u64 a b))),.no)
  | .rem=>some (.raw (.lit (.int .u64 (a.tmod b))),.yes (b≠0))
  | .eql=>some (.bool (a==b),.no)
  | .geq=>some (.bool (decide (b<=a)),.no)
  |_=>none
 |_,_=>none
def En:X->Bool
 | .c (.lit (.bool true))=>true
 |_=>false
def Ak:X->Bool
 | .c (.lit (.bool false))=>true
 |_=>false
def aga(t:Bool)(xa xb:X):V->V->Option V
 | .bool x,.bool y=>bif En xa then some (.bool (t||y)) else bif Ak xb then some (.bool (t&&x)) else some (.bool (bif t then x else y))
 | .int x,.int y=>some (.int (bif t then x else y))
 | .str x,.str y=>some (.str (bif t then x else y))
 |_,_=>none
def abQ(t:Bool)(xa xb:X)(a b:V×Sd):FY :=
 match a,b with
 |(a,sa),(b,sb)=>match aga t xa xb a b with
  |some v=>some (v,(sa.imp t true).and (sb.imp t false))
  |none=>none
def dO{α:Type}(b:Bool)(x:Option α):Option α:=bif b then x else none
def V.Wv(k:Nat):Option V->FY
 |some u=>some (.ref k u,.no)
 |none=>none
def V.KD:Option V->FY
 |some u=>some (u,.no)
 |none=>none
def faZ(h:Hz)(off k:Nat):V->FY
 | .ref kt v=>dO (!(Nat.beq kt 0)&&qh (bn kt) off k) (V.Wv k (v.part off k))
 | .ptr i j o=>dO (h.get i).isSome (some (.ptr i j (o+off),.no))
 |_=>none
def fvZ(off k:Nat)(v:V):FY :=
 match v.kd with
 |some kt=>dO (!(Nat.beq kt 0)&&qh (bn kt) off k) (V.KD (v.part off k))
 |none=>none
def Zz:List V->Nat->Option V
 |[],_=>none
 |v::_,0=>some v
 |_::r,n+1=>Zz r n
def iaZ(h:Hz)(k:Nat):V->V->FY
 | .Cj k' _ l,.int n=>match Zz l n.toNat with
  |some v=>dO (Nat.beq k' k) (some (.ref k v,.yes (0<=n)))
  |none=>none
 | .row k' _ r,.int n=>dO (Nat.beq k' k) (some (.ref k (r.get n.toNat),.yes (r.rng n)))
 | .own o,.int n=>match h.get o with
  |some (.row _ k' r [])=>dO (Nat.beq k' k) (some (.ptr o n.toNat 0,.yes (r.rng n)))
  |some (.gen _ k' x)=>dO (Nat.beq k' k) (some (.ptr o n.toNat 0,.yes (0<=n/\n<x.length)))
  |_=>none
 | .oG o lo hi,.int n=>match h.get o with
  |some (.row _ k' _ [])=>dO (Nat.beq k' k) (some (.ptr o (lo+n.toNat) 0,.yes (0<=n/\n<(hi-lo:Nat))))
  |_=>none
 |_,_=>none
def chZ:V->V->FY
 | .str s,.int n=>some (.u8 (s.getD n.toNat 0).toNat,.yes (0<=n/\n<s.length))
 | .str s,.u8 n=>some (.u8 (s.getD n.toNat 0).toNat,.yes (0<=n/\n<s.length))
 |_,_=>none
def ldB(k j off ko:Nat)(v:V):FY :=
 bif Nat.beq j 0 then(bif Nat.beq off 0&&Nat.beq ko k then some (v,.no) else dO (!(Nat.beq ko 0)&&qh (bn ko) off k) (V.KD (v.part off k))) else none
def ldR(k j off ko:Nat)(r:Rw):FY :=
 bif Nat.beq off 0&&Nat.beq ko k then some (r.get j,.yes (r.rng j)) else
  match (r.get j).part off k with
  |some u=>dO (!(Nat.beq ko 0)&&qh (bn ko) off k) (some (u,.yes (r.rng j)))
  |none=>none
def ldZ(h:Hz)(k:Nat):V->FY
 | .ref k' v=>dO (Nat.beq k' k&&Nat.blt 0 (bn k)) (some (v,.no))
 | .ptr i j off=>match h.get i with
  |some (.box _ ko v)=>ldB k j off ko v
  |some (.row _ ko r [])=>ldR k j off ko r
  |_=>none
 |_=>none
def aeB(h:Hz)(str:Bool):V->FY
 | .row _ _ r=>dO (!str) (some (r.lenV,.no))
 | .Cj _ _ l=>dO (!str) (some (.int l.length,.no))
 | .str s=>dO str (some (.int s.length,.no))
 | .own o=>match h.get o with
  |some (.row _ k r x)=>dO (!str&& !(Nat.beq k iE)) (match x with|[]=>some (r.lenV,.no)|x=>some (.int (r.len+x.length),.no))
  |some (.gen _ k x)=>dO (!str&& !(Nat.beq k iE)) (some (.int x.length,.no))
  |_=>none
 | .oG o lo hi=>dO (!str&&(h.get o).isSome) (some (.int (hi-lo:Nat),.no))
 |_=>none
def mxZ:V->V->FY
 | .int a,.int b=>some (.int (max a b),.no)
 |_,_=>none
def Dw(m:Fm):List X->Option (List V×Sd)
 |[]=>some ([],.no)
 |x::r=>match Dv m x,Dw m r with
  |some v,some (l,s)=>match v.bare with|(u,s')=>some (u::l,s'.and s)
  |_,_=>none
def XQ:List (Nat×Nat×X)->List V->List V->Option (List V)
 |[],[],z=>some z
 |(off,n,_)::ps,v::vs,z=>match v.cells with
  |some c=>dO (Nat.beq c.length n&&Nat.ble (off+n) z.length) (XQ ps vs (z.take off++c++z.drop (off+n)))
  |none=>none
 |_,_,_=>none
def Fb(h:Hz):List V->Bool
 |[]=>true
 |v::r=>v.kW h&&Fb h r
def mkZ(m:Fm)(h:Hz)(z:List T)(ps:List (Nat×Nat×X)):FY :=
 match Dw m (ps.map fun p=>p.2.2) with
 |some (vs,s)=>match XQ ps vs (ofL z) with
  |some l=>dO (Fb h vs) (some (.agg l,s))
  |none=>none
 |none=>none
def GH(k:Nat):List V->Bool
 |[]=>true
 |v::r=>(match v.kd with|some k'=>Nat.beq k' k|none=>false)&&GH k r
def abR(n:Nat):List (Nat×X)->List V->List V->Option (List V)
 |[],[],z=>some z
 |(i,_)::ps,v::vs,z=>dO (Nat.blt i n) (abR n ps vs (z.set i v))
 |_,_,_=>none
def msZ(m:Fm)(h:Hz)(k:Nat)(z:T)(n:Nat)(ps:List (Nat×X)):FY :=
 match Dw m (ps.map fun p=>p.2) with
 |some (vs,s)=>match abR n ps vs (List.replicate n (Ja z)) with
  |some l=>dO ((z.kd==k)&&z.free&&GH k vs&&Fb h vs&&V.bG vs&&Nat.ble (n*bn k) 16777216&&Nat.blt 0 (bn k))
    (match Rw.ofL l with
    |some r=>some (.row k true r,s)
    |none=>some (.Cj k true l,s))
  |none=>none
 |none=>none
def kOk(k k':Nat):Rw->Bool
 | .nil=>true
 |_=>Nat.beq k' k
def TG(m:Fm):Option X->Option (Option V×Sd)
 |none=>some (none,.no)
 |some x=>match Dv m x with
  |some v=>match v.bare with|(u,s)=>some (some u,s)
  |none=>none
def abS(k k':Nat)(f:Bool)(r:Rw):Option V->Option V->Option V->FY
 |none,none,none=>dO (kOk k k' r) (some (.row k f r,.no))
 |some (.int a),none,none=>dO (kOk k k' r) (some (.row k f (r.drop a.toNat),.yes (r.sH a)))
 |none,some (.int b),none=>dO (kOk k k' r) (some (.row k (f&&decide (b=r.len)) (r.take b.toNat),.yes (r.sH b)))
 |some (.int a),some (.int b),none=>dO (kOk k k' r) (some (.row k false ((r.take b.toNat).drop a.toNat),.yes (0<=a/\a<=b/\r.sH b)))
 |none,some (.int b),some (.int c)=>dO (kOk k k' r) (some (.row k (decide (b=c)) (r.take b.toNat),.yes (0<=b/\b<=c/\r.sH c)))
 |_,_,_=>none
def abT(k i ko:Nat)(r:Rw):Option V->Option V->Option V->FY
 |some (.int a),none,none=>dO (Nat.beq ko k) (some (.oG i a.toNat r.len,.yes (r.sH a)))
 |none,some (.int b),none=>dO (Nat.beq ko k) (some (.oG i 0 b.toNat,.yes (r.sH b)))
 |some (.int a),some (.int b),none=>dO (Nat.beq ko k) (some (.oG i a.toNat b.toNat,.yes (0<=a/\a<=b/\r.sH b)))
 |_,_,_=>none
def Wx(k i ko:Nat)(r:Rw)(xs:List V):Option V->Option V->Option V->FY
 |none,some (.int b),none=>dO (Nat.beq ko k) (some (.oG i 0 b.toNat,.yes (r.sH b)))
 |lo,hi,mx=>match xs with|[]=>abT k i ko r lo hi mx|_=>none
def slZ(h:Hz)(x:Bool)(k:Nat)(v:V)(lo hi mx:Option V):FY :=
 match v with
 | .row k' f r=>abS k k' f r lo hi mx
 | .own i=>bif x then(match h.get i with
  |some (.row _ ko r xs)=>Wx k i ko r xs lo hi mx
  |_=>none) else none
 |_=>none
def slX(m:Fm)(h:Hz)(b:Bool)(k:Nat)(x:X)(lo hi mx:Option X):FY :=
 Vk m x fun v=>match TG m lo,TG m hi,TG m mx with
  |some (lo,s1),some (hi,s2),some (mx,s3)=>match slZ h b k v lo hi mx with
   |some (u,s)=>some (u,s1.and (s2.and (s3.and s)))
   |none=>none
  |_,_,_=>none
def exZ(i:Nat):V->FY
 | .bU l=>match l[i]? with|some v=>some (v,.no)|none=>none
 |_=>none
def ag4(ne:Bool)(n:Nat):V->V->FY
 | .dat (.lin x),.dat (.lin y)=>dO (Nat.beq n 4) (some (.bool (bif ne then !(x==y) else x==y),.no))
 | .dat (.RF x),.dat (.RF y)=>dO (Nat.beq n 6) (some (.bool (bif ne then !(x==y) else x==y),.no))
 |_,_=>none
def mfZ(m:Fm)(h:Hz)(f:FuncId)(cap:List X):FY :=
 match Dw m cap with
 |some (l,s)=>dO (Fb h l&&GH 0 l&&Nat.blt f 4096) (some (.fn f l,s))
 |none=>none
def mbZ(f:FuncId):V->FY
 | .agg l=>dO (Nat.blt f 4096) (some (.fn (f+4096) l,.no))
 | .dat d=>dO (Nat.blt f 4096) (some (.fn (f+4096) d.cells,.no))
 |_=>none
def qz(m:Fm)(h:Hz):oC->FY
 | .mv x=>match Dv m x with|some v=>some (v,.no)|none=>none
 | .pick c a b=>Vk m c fun c=>match c,Dv m a,Dv m b with
  | .bool t,some va,some vb=>abQ t a b va.bare vb.bare
  |_,_,_=>none
 | .bin op x y=>qz2 m x y (ag3 op)
 | .bb ne x y=>qz2 m x y fun x y=>match x,y with
  | .bool a,.bool b=>some (.bool (bif ne then !(a==b) else a==b),.no)
  |_,_=>none
 | .not x=>Vk m x fun v=>match v with| .bool b=>some (.bool !b,.no)|_=>none
 | .conv .i64 x=>Vk m x fun v=>match v with
  | .int n=>some (.int n,.yes (okI n))
  | .u8 n=>some (.int n,.yes (okI n))
  | .raw (.lit (.int .u64 n))=>some (.int n,.yes (okI n))
  |_=>none
 | .conv .u64 x=>Vk m x fun v=>match v with
  | .int n=>some (.raw (.lit (.int .u64 n)),.yes (0<=n/\n<18446744073709551616))
  | .raw (.lit (.int .i64 n))=>some (.raw (.lit (.int .u64 (IntKind.u64.wrap n))),.no)
  |_=>none
 | .conv .u8 x=>Vk m x fun v=>match v with
  | .raw (.lit (.int .u64 n))=>some (.u8 n,.yes (0<=n/\n<256))
  |_=>none
 | .fa off k x=>Vk m x (faZ h off k)
 | .ia k x i=>qz2 m x i (iaZ h k)
 | .ch x i=>qz2 m x i chZ
 | .ld k x=>Vk m x (ldZ h k)
 | .len s x=>Vk m x (aeB h s)
 | .mx x y=>qz2 m x y mxZ
 | .mk z ps=>mkZ m h z ps
 | .ms _ k z n ps=>msZ m h k z n ps
 | .sl k x lo hi mx=>slX m h false k x lo hi mx
 | .slx k x lo hi mx=>slX m h true k x lo hi mx
 | .ex x i=>Vk m x (exZ i)
 | .mf f cap=>mfZ m h f cap
 | .eqs ne n x y=>qz2 m x y (ag4 ne n)
 | .mb f x=>Vk m x (mbZ f)
 |_=>none
theorem agb(b:ByteArray):eS b.data.toList= .lit (.string b):=by
 unfold eS bs; simp
mutual
theorem BD:(t:T)->(Ja t).aI=t
 | .lit v=>by
  cases v with
  |int k n=>cases k<;>simp[Ja,V.aI]
  |bool b=>simp[Ja,V.aI]
  |string b=>simp only[Ja,V.aI]; exact agb b
  |_=>simp[Ja,V.aI]
 | .agg l=>by simp only[Ja,V.aI]; rw[Eo l]
 | .sl k f l=>by cases l<;>simp[Ja,V.aI,Rw.aQ]
 | .ref k t=>by simp[Ja,V.aI]
 | .own i=>by simp[Ja,V.aI]
 | .ptr i j k=>by simp[Ja,V.aI]
 | .oG i j k=>by simp[Ja,V.aI]
 | .fn f l=>by simp only[Ja,V.aI]; rw[Eo l]
 | .bU l=>by simp[Ja,V.aI]
 | .any=>by simp[Ja,V.aI]
theorem Eo:(l:List T)->V.aQ (ofL l)=l
 |[]=>rfl
 |t::r=>by simp only[ofL,V.aQ]; rw[BD t,Eo r]
end
theorem iP(l:List V):V.aQ l=l.map V.aI:=by
 induction l with
 |nil=>rfl
 |cons v r ih=>simp[V.aQ,ih]
theorem dA(l:List V):(V.aQ l).length=l.length:=by rw[iP]; simp
theorem yP(a b:List V):V.aQ (a++b)=V.aQ a++V.aQ b:=by simp[iP]
theorem MK(a:List V)(n:Nat):V.aQ (a.take n)=(V.aQ a).take n:=by simp[iP]
theorem ML(a:List V)(n:Nat):V.aQ (a.drop n)=(V.aQ a).drop n:=by simp[iP]
def Rp(m:Fm)(fr:List T):Prop:= ∀ i v,m.get i=some v->fr[i]? =some v.aI
theorem Rp.getD{m:Fm}{fr:List T}(R:Rp m fr){i:Nat}{v:V}{d:T}(h:m.get i=some v):fr.getD i d=v.aI:=by
 rw[ag,R i v h]; rfl
theorem Rp.ev{m:Fm}{s:AS}(R:Rp m s.fr){x:X}{v:V}(h:Dv m x=some v):s.ev x=v.aI:=by
 cases x with
 |t n=>exact R.getD h
 |c t=>simp only[Dv,bc] at h; subst h; exact(BD t).symm
theorem dW{v u:V}{s:Sd}(h:v.bare=(u,s))(hs:s.holds):v.aI=u.aI:=by
 unfold V.bare at h;split at h
 ·cases h; simp only[Sd.holds] at hs; simp[V.aI,hs]
 ·cases h; rfl
theorem Sd.pO{a b:Sd}:(a.and b).holds↔a.holds/\b.holds:=by cases a<;>cases b<;>simp[Sd.and,Sd.holds]
theorem Sd.Pz{t b:Bool}{s:Sd}:(s.imp t b).holds↔(t=b->s.holds):=by cases s<;>simp[Sd.imp,Sd.holds]
theorem pR{m:Fm}{s:AS}(R:Rp m s.fr){x:X}{f:V->FY}{r:V}{sd:Sd}(h:Vk m x f=some (r,sd))(hs:sd.holds): ∃ u s',f u=some (r,s')/\s'.holds/\s.ev x=u.aI:=by
 unfold Vk at h;split at h
 ·rename_i v hv;split at h;rename_i u s0 hb;split at h
  ·rename_i r' s' hf;cases h;rw[Sd.pO] at hs;exact⟨u,s',hf,hs.2,by rw[R.ev hv,dW hb hs.1]⟩
  ·cases h
 ·cases h
theorem Ep{m:Fm}{s:AS}(R:Rp m s.fr){x y:X}{f:V->V->FY}{r:V}{sd:Sd}(h:qz2 m x y f=some (r,sd))(hs:sd.holds): ∃ u v s',f u v=some (r,s')/\s'.holds/\s.ev x=u.aI/\s.ev y=v.aI:=by
 obtain⟨u,s',h1,h2,h3⟩:=pR R h hs;obtain⟨v,s'',h4,h5,h6⟩:=pR R h1 h2;exact⟨u,v,s'',h4,h5,h3,h6⟩
theorem aU{α:Type}{b:Bool}{x:Option α}{y:α}(h:dO b x=some y):b=true/\x=some y:=by
 cases b<;>simp[dO] at h; exact⟨rfl,h⟩
theorem aiq{n:Int}(h1:0<=n)(h2:n<18446744073709551616):IntKind.u64.wrap n=n:=by
 have e:IntKind.u64.wrap n=(if(false&&decide (n % 18446744073709551616>=9223372036854775808))=true then n % 18446744073709551616-18446744073709551616 else n % 18446744073709551616):=rfl;rw[e];simp only[Bool.false_and,cz,cP];omega
theorem ag5{n:Int}(h1:0<=n)(h2:n<256):IntKind.u8.wrap n=n:=by
 have e:IntKind.u8.wrap n=(if(false&&decide (n % 256>=128))=true then n % 256-256 else n % 256):=rfl;rw[e];simp only[Bool.false_and,cz,cP];omega
theorem XR{n:Int}(h:okI n):IntKind.i64.wrap n=n:=wrap64 h.1 h.2
theorem Rw.fD(r:Rw):r.aQ.length=r.len:=by cases r<;>simp[Rw.aQ,Rw.len]
theorem Rw.XT(r:Rw):r.lenV= .int r.len:=by cases r<;>rfl
theorem Rw.BF{n:Int}{r:Rw}:r.rng n↔(0<=n/\n<r.len):=by cases r<;>simp[Rw.rng,Rw.len]<;>omega
theorem Rw.vX{n:Int}{r:Rw}:r.sH n↔(0<=n/\n<=r.len):=by cases r<;>simp[Rw.sH,Rw.len]<;>omega
theorem getD_map'{α:Type}{f:α->T}{l:List α}{i:Nat}{d:α}(h:i<l.length):(l.map f).getD i .any=f (l.getD i d):=by
 simp[List.getD_eq_getElem?_getD,h]
theorem Rw.QK{r:Rw}{i:Nat}(h:i<r.len):r.aQ.getD i .any=(r.get i).aI:=by
 cases r<;>simp only[Rw.len] at h<;>simp only[Rw.aQ,Rw.get,V.aI,Dat.aI,Rw.aQ]<;>first|exact getD_map' h|omega
theorem Rw.Hr(r:Rw)(n:Nat):(r.take n).aQ=r.aQ.take n:=by cases r<;>simp[Rw.take,Rw.aQ]
theorem Rw.TI(r:Rw)(n:Nat):(r.drop n).aQ=r.aQ.drop n:=by cases r<;>simp[Rw.drop,Rw.aQ]
theorem Rw.abU(r:Rw):V.aQ r.vs=r.aQ:=by
 rw[iP];cases r<;>simp[Rw.vs,Rw.aQ,V.aI,Dat.aI]
theorem Rw.KE{a b c:Rw}(h:a.app b=some c):c.aQ=a.aQ++b.aQ:=by
 unfold Rw.app at h;split at h<;>first|(cases h; done)|(cases h; simp[Rw.aQ])
theorem V.aeC{v:V}{r:Rw}(h:v.one=some r):r.aQ=[v.aI]:=by
 unfold V.one at h;split at h<;>first|(cases h; done)|(cases h; simp[Rw.aQ,V.aI,V.aQ,Dat.aI,fG,Oq,Ho])
theorem Rw.Eo: ∀ {l:List V} {r:Rw},Rw.ofL l=some r->r.aQ=V.aQ l:=by
 intro l;induction l with
 |nil=>intro r h; cases h; rfl
 |cons v l ih =>
  intro r h;simp only[Rw.ofL] at h;split at h
  ·rename_i a b h1 h2;rw[Rw.KE h,V.aeC h1,ih h2]; rfl
  ·cases h
theorem V.Wy{v:V}{k:Nat}(h:v.kd=some k):v.aI.kd=k:=by
 cases v with
 |dat d=>cases h; exact Dat.ag2 d
 |_=>simp only[V.kd,bc,reduceCtorEq] at h<;>subst h<;>simp[V.aI,T.kd,eS,dA]
theorem V.Jb{v:V}{l:List V}(h:v.cells=some l):v.aI.cells=V.aQ l:=by
 cases v<;>simp only[V.cells,bc,reduceCtorEq] at h<;>subst h<;>simp[V.aI,Dat.I9,T.cells,eS,V.aQ]
theorem Hz.Es{h:Hz}{i:Nat}:(h.au i).isSome=(h.get i).isSome:=by simp[Hz.au]
theorem V.vY{h:Hz}{v:V}(hv:v.kW h=true):v.aI.kW h.au=true:=by
 cases v<;>simp only[V.kW,cz] at hv<;>simp[V.aI,T.kW,T.zZ,eS,Value.oneCell',Hz.Es,hv]
 rename_i d;cases d<;>rfl
theorem V.abV{h:Hz}{v:V}(hv:v.kW h=true)(hk:v.kd=some 0):v.aI.zZ h.au=true:=by
 cases v<;>simp only[V.kW,cz] at hv<;>simp only[V.kd,bc,Nat.succ_ne_zero] at hk<;>simp[V.aI,T.zZ,eS,Value.oneCell',Hz.Es,hv]
 rename_i d;cases d<;>cases hk
theorem Dat.free(d:Dat):d.aI.free=true:=by cases d<;>rfl
mutual
theorem V.iZ:(v:V)->v.free=true->v.aI.free=true
 | .int _,_=>by simp[V.aI,T.free]
 | .bool _,_=>by simp[V.aI,T.free]
 | .u8 _,_=>by simp[V.aI,T.free]
 | .str _,_=>by simp[V.aI,T.free,eS]
 | .dat d,_=>by simp only[V.aI]; exact d.free
 | .agg l,h=>by simp only[V.aI,T.free]; simp only[V.free] at h; exact V.fE l h
 | .row _ _ _,_=>by simp[V.aI,T.free]
 | .Cj _ _ _,_=>by simp[V.aI,T.free]
 | .ref _ _,_=>by simp[V.aI,T.free]
 | .own _,h=>by simp[V.free] at h
 | .inn _,h=>by simp[V.free] at h
 | .pin _ _ _,h=>by simp[V.free] at h
 | .ptr _ _ _,h=>by simp[V.free] at h
 | .oG _ _ _,h=>by simp[V.free] at h
 | .fn _ l,h=>by simp only[V.aI,T.free]; simp only[V.free] at h; exact V.fE l h
 | .bU l,h=>by simp only[V.aI,T.free]; simp only[V.free] at h; exact V.fE l h
 | .cnd _ _,h=>by simp[V.free] at h
 | .raw t,h=>by simp only[V.aI]; simpa only[V.free] using h
theorem V.fE:(l:List V)->V.bG l=true->T.bG (V.aQ l)=true
 |[],_=>by simp[V.aQ,T.bG]
 |v::r,h=>by
  simp only[V.bG,aD] at h;simp only[V.aQ,T.bG,aD];exact⟨V.iZ v h.1,V.fE r h.2⟩
end
theorem zq{l:List V}{i:Nat}{u:V}(h:l[i]? =some u):(V.aQ l).getD i .any=u.aI:=by
 rw[iP,ag,cM,h]; rfl
theorem V.MN{off k:Nat}{v u:V}(h:v.part off k=some u):v.aI.part off k=u.aI:=by
 unfold V.part at h;split at h
 ·simp only[V.aI,Dat.I9,T.part,T.cells]; exact zq h
 ·simp only[V.aI,T.part,T.cells]; exact zq h
 ·rename_i k x;cases hb:(Nat.beq off 2)&&(Nat.beq k 4) with
  |false=>rw[hb] at h; cases h
  |true =>
   rw[hb] at h;simp only[aD,Nat.beq_eq] at hb;obtain⟨rfl,rfl⟩:=hb;cases h; rfl
 ·cases h;simp only[V.aI,T.part,T.cells,MK,ML]
 ·cases h
theorem fA{a b:Nat}(h:Nat.beq a b=true):a=b:=dm h
section
variable {m:Fm} {h:Hz} {s:AS}
def Ok(s:AS)(op:oC)(v:V):Prop:=qc s op/\qt s op=v.aI
theorem aeD{op:BinOp}{x y:X}{u v r:V}{sd:Sd}(q:ag3 op u v=some (r,sd))(hs:sd.holds)(h1:s.ev x=u.aI)(h2:s.ev y=v.aI):Ok s (.bin op x y) r:=by
 unfold Ok; simp only[qc,qt]; rw[h1,h2];unfold ag3 at q;split at q
 ·rename_i a b;split at q<;>first|(cases q; done)|(cases q; simp only[Sd.holds] at hs; simp[V.aI,EI,kEq,XR,hs])
 ·split at q<;>first|(cases q; done)|(cases q; simp[V.aI,EI,kEq])
 ·split at q
  ·cases q; simp[V.aI,EI,eS,Em]
  ·cases q; simp[V.aI,EI,eS,Em]
  ·rename_i a b _;cases q;simp only[Sd.holds] at hs;have hsz:(((bs a).size+(bs b).size:Nat):Int)<=9223372036854775807:=by
    have e1:(bs a).size=a.length:=by simp[bs,ByteArray.size]
    have e2:(bs b).size=b.length:=by simp[bs,ByteArray.size]
    rw[e1,e2]; exact Int.ofNat_le.2 hs
   have hap:bs a++bs b=bs (a++b):=by apply ByteArray.ext; simp[bs]
   have hsz2:((bs a).size:Int)+(bs b).size<=9223372036854775807:=by omega
   simp[V.aI,EI,eS,hsz2,hap]
  ·cases q
 ·split at q
  ·cases q;simp only[Sd.holds] at hs;refine⟨?_,?_⟩
   ·simp only[V.aI,EI,hs,decide_true,bS,Option.isSome]
   ·simp only[V.aI,EI,hs,decide_true,bS]; rfl
  ·cases q; simp[V.aI,EI,kEq]
  ·cases q;simp only[Sd.holds] at hs;simp[V.aI,EI,kEq,hs]
  ·cases q; simp[V.aI,EI,kEq]
  ·cases q; simp[V.aI,EI,kEq]
  ·cases q
 ·cases q
theorem WA{x:X}(hx:En x=true):x= .c (.lit (.bool true)):=by
 unfold En at hx;split at hx
 ·rfl
 ·cases hx
theorem TJ{x:X}(hx:Ak x=true):x= .c (.lit (.bool false)):=by
 unfold Ak at hx;split at hx
 ·rfl
 ·cases hx
theorem abW{c xa xb:X}{t:Bool}{va vb r:V}{sd:Sd}(R:Rp m s.fr)(ha:Dv m xa=some va)(hb:Dv m xb=some vb)(q:abQ t xa xb va.bare vb.bare=some (r,sd))(hs:sd.holds)(hc:s.ev c= .lit (.bool t)):Ok s (.pick c xa xb) r:=by
 unfold Ok; simp only[qc,qt]; rw[hc];refine⟨rfl,?_⟩;unfold abQ at q;split at q;rename_i a sa b sb ea eb;split at q
 ·rename_i v hp;cases q;rw[Sd.pO,Sd.Pz,Sd.Pz] at hs;have h1:t=true->s.ev xa=a.aI:=fun e=>by rw[R.ev ha,dW ea (hs.1 e)]
  have h2:t=false->s.ev xb=b.aI:=fun e=>by rw[R.ev hb,dW eb (hs.2 e)]
  unfold aga at hp;split at hp
  ·rename_i x y;have hp':r= .bool (bif En xa then t||y else bif Ak xb then t&&x else bif t then x else y):=by
    cases e1:En xa<;>cases e2:Ak xb<;>simp[e1,e2] at hp ⊢ <;>exact hp.symm
   subst hp';have key:CY (.lit (.bool t)) (s.ev xa) (s.ev xb)= .lit (.bool (bif t then x else y)):=by
    cases t with
    |true =>
     rw[h1 rfl]; simp only[V.aI,CY];split<;>simp_all
    |false =>
     rw[h2 rfl]; simp only[V.aI,CY];split<;>simp_all
   rw[key];simp only[V.aI]
   congr 2
   cases e1:En xa with
   |true =>
    have:=WA e1; subst this;simp only[Dv,bc] at ha; subst ha;simp only[Ja,V.bare,eh] at ea;have:=ea.1; cases this;cases t<;>rfl
   |false =>
    cases e2:Ak xb with
    |true =>
     have:=TJ e2; subst this;simp only[Dv,bc] at hb; subst hb;simp only[Ja,V.bare,eh] at eb;have:=eb.1; cases this;cases t<;>simp
    |false=>rfl
  ·cases hp;cases t with
   |true=>rw[h1 rfl]; simp only[V.aI,CY,bS]
   |false=>rw[h2 rfl]; simp only[V.aI,CY,bB]; split<;>simp_all
  ·cases hp;cases t with
   |true=>rw[h1 rfl]; simp only[V.aI,CY,bS,eS]
   |false=>rw[h2 rfl]; simp only[V.aI,CY,bB,eS]; split<;>simp_all
  ·cases hp
 ·cases q
theorem WB{k:Nat}{p:Option V}{r:V}{sd:Sd}(q:V.Wv k p=some (r,sd)): ∃ u,p=some u/\r= .ref k u:=by
 unfold V.Wv at q;split at q
 ·cases q; exact⟨_,rfl,rfl⟩
 ·cases q
theorem TK{p:Option V}{r:V}{sd:Sd}(q:V.KD p=some (r,sd)):p=some r:=by
 unfold V.KD at q;split at q
 ·cases q; rfl
 ·cases q
theorem aeE{k:Nat}(h:(!(Nat.beq k 0))=true):(!(k==0))=true:=by
 cases k<;>simp_all
theorem ag6(hh:s.hp=h.au){off k:Nat}{x:X}{u r:V}{sd:Sd}(q:faZ h off k u=some (r,sd))(h1:s.ev x=u.aI):Ok s (.fa off k x) r:=by
 unfold Ok; simp only[qc,qt]; rw[h1];unfold faZ at q;split at q
 ·obtain⟨g,q⟩:=aU q;obtain⟨u,e,rfl⟩:=WB q;simp only[aD] at g;simp only[V.aI,V.MN e,aD];exact⟨⟨aeE g.1,g.2⟩,trivial⟩
 ·obtain⟨g,q⟩:=aU q;cases q;simp only[V.aI,hh,Hz.Es,g,and_self]
 ·cases q
theorem aP{i:Nat}{o:OV}(e:h.get i=some o):h.au i=some o.ay:=by simp[Hz.au,e]
theorem aeF: ∀ {l:List V} {i:Nat} {v:V},Zz l i=some v->i<l.length/\(V.aQ l).getD i .any=v.aI:=by
 intro l;induction l with
 |nil=>intro i v h; cases h
 |cons u r ih =>
  intro i v h;cases i with
  |zero=>cases h; exact⟨Nat.succ_pos _,rfl⟩
  |succ i =>
   obtain⟨a,b⟩:=ih h;exact⟨Nat.succ_lt_succ a,by simpa [V.aQ] using b⟩
theorem abX(hh:s.hp=h.au){k:Nat}{x i:X}{u v r:V}{sd:Sd}(q:iaZ h k u v=some (r,sd))(hs:sd.holds)(h1:s.ev x=u.aI)(h2:s.ev i=v.aI):Ok s (.ia k x i) r:=by
 unfold Ok; simp only[qc,qt]; rw[h1,h2];unfold iaZ at q;split at q
 ·rename_i k' f l n;split at q
  ·rename_i v hv;obtain⟨g,q⟩:=aU q;cases q;have:=fA g; subst this;simp only[Sd.holds] at hs;obtain⟨a,b⟩:=aeF hv;simp only[V.aI,inR,dA];exact⟨⟨trivial,hs,by omega⟩,by rw[b]⟩
  ·cases q
 ·rename_i k' f w n;obtain⟨g,q⟩:=aU q;cases q;have:=fA g; subst this;simp only[Sd.holds,Rw.BF] at hs;simp only[V.aI,inR,Rw.fD];refine⟨⟨trivial,hs⟩,?_⟩;rw[Rw.QK (by omega)]
 ·rename_i o n;split at q
  ·rename_i ty k' w e;obtain⟨g,q⟩:=aU q;cases q;have:=fA g; subst this;simp only[Sd.holds,Rw.BF] at hs;simp only[V.aI,hh,aP e,OV.ay,V.aQ,cT,inR,Rw.fD];exact⟨⟨trivial,hs⟩,trivial⟩
  ·rename_i ty k' x e;obtain⟨g,q⟩:=aU q;cases q;have:=fA g; subst this;simp only[Sd.holds] at hs;simp only[V.aI,hh,aP e,OV.ay,inR,dA];exact⟨⟨trivial,hs⟩,trivial⟩
  ·cases q
 ·rename_i o lo hi n;split at q
  ·rename_i ty k' w e;obtain⟨g,q⟩:=aU q;cases q;have:=fA g; subst this;simp only[Sd.holds] at hs;simp only[V.aI,hh,aP e,OV.ay,inR];exact⟨⟨trivial,hs⟩,trivial⟩
  ·cases q
 ·cases q
theorem ag7{x i:X}{u v r:V}{sd:Sd}(q:chZ u v=some (r,sd))(hs:sd.holds)(h1:s.ev x=u.aI)(h2:s.ev i=v.aI):Ok s (.ch x i) r:=by
 unfold Ok; simp only[qc,qt]; rw[h1,h2];unfold chZ at q;split at q
 ·cases q;simp only[Sd.holds] at hs;simp only[V.aI,eS,inR,KC,abM];exact⟨hs,trivial⟩
 ·cases q;simp only[Sd.holds] at hs;simp only[V.aI,eS,inR,KC,abM];exact⟨hs,trivial⟩
 ·cases q
theorem WC(hh:s.hp=h.au){k:Nat}{x:X}{u r:V}{sd:Sd}(q:ldZ h k u=some (r,sd))(hs:sd.holds)(h1:s.ev x=u.aI):Ok s (.ld k x) r:=by
 unfold Ok; simp only[qc,qt]; rw[h1];unfold ldZ at q;split at q
 ·obtain⟨g,q⟩:=aU q;cases q;simp only[aD] at g;have:=fA g.1; subst this;simp[V.aI,g.2]
 ·rename_i i j off;split at q
  ·rename_i ty ko v e;simp only[V.aI,hh,aP e,OV.ay];unfold ldB at q;cases hj:Nat.beq j 0 with
   |false=>rw[hj] at q; cases q
   |true =>
    have:=fA hj; subst this;rw[hj] at q;simp only[bS] at q;cases hb:(Nat.beq off 0&&Nat.beq ko k) with
    |true =>
     rw[hb] at q; cases q;simp only[aD] at hb;have e1:=fA hb.1; have e2:=fA hb.2; subst e1; subst e2;simp
    |false =>
     rw[hb] at q;simp only[bB] at q;obtain⟨g,q⟩:=aU q;have hb':(off==0&&ko==k)=false:=by
      rw[cC] at hb ⊢;rcases hb with hb|hb
      ·left; simpa using cG hb
      ·right; simpa using cG hb
     simp only[hb',bB,cv,List.getD_cons_zero,V.MN (TK q),bN,bw];simp only[aD] at g ⊢;exact⟨⟨by omega,aeE g.1,g.2⟩,trivial⟩
  ·rename_i ty ko w e;simp only[V.aI,hh,aP e,OV.ay,V.aQ,cT];unfold ldR at q;cases hb:(Nat.beq off 0&&Nat.beq ko k) with
   |true =>
    rw[hb] at q; cases q;simp only[aD] at hb;have e1:=fA hb.1; have e2:=fA hb.2; subst e1; subst e2;simp only[Sd.holds,Rw.BF] at hs;have hlt:j<w.len:=by omega
    simp only[BEq.rfl,eR,Bool.true_or,bS,Rw.fD,Rw.QK hlt];exact⟨⟨hlt,trivial⟩,trivial⟩
   |false =>
    rw[hb] at q;simp only[bB] at q;split at q
    ·rename_i u hu;obtain⟨g,q⟩:=aU q;cases q;have hb':(off==0&&ko==k)=false:=by
      rw[cC] at hb ⊢;rcases hb with hb|hb
      ·left; simpa using cG hb
      ·right; simpa using cG hb
     simp only[Sd.holds,Rw.BF] at hs;have hlt:j<w.len:=by omega
     simp only[hb',bB,cv,Rw.fD,Rw.QK hlt,V.MN hu];simp only[aD] at g ⊢;exact⟨⟨hlt,aeE g.1,g.2⟩,trivial⟩
    ·cases q
  ·cases q
 ·cases q
theorem XU(hh:s.hp=h.au){str:Bool}{x:X}{u r:V}{sd:Sd}(q:aeB h str u=some (r,sd))(h1:s.ev x=u.aI):Ok s (.len str x) r:=by
 unfold Ok; simp only[qc,qt]; rw[h1];unfold aeB at q;split at q
 ·obtain⟨g,q⟩:=aU q; cases q;simp only[bl] at g;simp[V.aI,Rw.XT,Rw.fD,g]
 ·obtain⟨g,q⟩:=aU q; cases q;simp only[bl] at g;simp[V.aI,dA,g]
 ·obtain⟨g,q⟩:=aU q; cases q;simp[V.aI,eS,KC,g]
 ·rename_i o;split at q
  ·rename_i ty k w y e;obtain⟨g,q⟩:=aU q;simp only[aD,bl] at g;have hk:k≠iE:=cG g.2;split at q
   ·cases q;simp only[V.aI,hh,aP e,OV.ay,V.aQ,cT,Rw.XT,Rw.fD];exact⟨⟨g.1,hk⟩,trivial⟩
   ·cases q;simp only[V.aI,hh,aP e,OV.ay,aL,dA,Rw.fD];exact⟨⟨g.1,hk⟩,by simp⟩
  ·rename_i ty k x e;obtain⟨g,q⟩:=aU q;cases q;simp only[aD,bl] at g;simp only[V.aI,hh,aP e,OV.ay,dA];exact⟨⟨g.1,cG g.2⟩,trivial⟩
  ·cases q
 ·rename_i o lo hi;obtain⟨g,q⟩:=aU q; cases q;simp only[aD,bl] at g;simp[V.aI,hh,Hz.Es,g]
 ·cases q
theorem ag8{x y:X}{u v r:V}{sd:Sd}(q:mxZ u v=some (r,sd))(h1:s.ev x=u.aI)(h2:s.ev y=v.aI):Ok s (.mx x y) r:=by
 unfold Ok; simp only[qc,qt]; rw[h1,h2];unfold mxZ at q;split at q
 ·rename_i a b;cases q; simp only[V.aI,gH]; congr 2; split<;>omega
 ·cases q
theorem ag9{i:Nat}{x:X}{u r:V}{sd:Sd}(q:exZ i u=some (r,sd))(h1:s.ev x=u.aI):Ok s (.ex x i) r:=by
 unfold Ok; simp only[qc,qt]; rw[h1];unfold exZ at q;split at q
 ·split at q
  ·rename_i l _ v e;cases q;have hi:i<l.length:=(bj.1 e).1;simp only[V.aI,cI,dA,zq e];exact⟨hi,trivial⟩
  ·cases q
 ·cases q
theorem aeG{ne:Bool}{n:Nat}{x y:X}{u v r:V}{sd:Sd}(q:ag4 ne n u v=some (r,sd))(h1:s.ev x=u.aI)(h2:s.ev y=v.aI):Ok s (.eqs ne n x y) r:=by
 unfold Ok; simp only[qc,qt]; rw[h1,h2];unfold ag4 at q;split at q
 ·rename_i x y;obtain⟨g,q⟩:=aU q; cases q;have:=fA g; subst this;have e:uQ [.int x.c,.int x.n,.int x.t,.int x.f] [.int y.c,.int y.n,.int y.t,.int y.f]=(x==y):=by
   cases x; cases y; simp[uQ,BEq.beq]
  simp only[V.aI,Dat.aI,Om,e];exact⟨rfl,trivial⟩
 ·rename_i x y;obtain⟨g,q⟩:=aU q; cases q;have:=fA g; subst this;have e:uQ [.int x.message,.int x.Hg,.int x.bound.c,.int x.bound.n,.int x.bound.t,.int x.bound.f] [.int y.message,.int y.Hg,.int y.bound.c,.int y.bound.n,.int y.bound.t,.int y.bound.f]=(x==y):=by
   obtain⟨a,b,c,d,e,f⟩:=x; obtain⟨a',b',c',d',e',f'⟩:=y; simp[uQ,BEq.beq]
  simp only[V.aI,Dat.aI,Oo,e];exact⟨rfl,trivial⟩
 ·cases q
end
section
variable {m:Fm} {h:Hz} {s:AS}
theorem tX(R:Rp m s.fr): ∀ {xs:List X} {l:List V} {sd:Sd},Dw m xs=some (l,sd)->sd.holds->xs.map s.ev=V.aQ l:=by
 intro xs;induction xs with
 |nil=>intro l sd q _; cases q; rfl
 |cons x r ih =>
  intro l sd q hs;simp only[Dw] at q;split at q
  ·rename_i v l' s' h1 h2;cases q;rw[Sd.pO] at hs;simp only[bp,V.aQ];rw[R.ev h1,dW (v:=v) (u:=v.bare.1) (s:=v.bare.2) rfl hs.1,ih h2 hs.2]
  ·cases q
theorem Jc: ∀ {l:List V},Fb h l=true->yw h.au (V.aQ l)=true:=by
 intro l;induction l with
 |nil=>intro _; rfl
 |cons v r ih =>
  intro q;simp only[Fb,aD] at q;simp only[V.aQ,yw,aD];exact⟨V.vY q.1,ih q.2⟩
theorem KF{k:Nat}: ∀ {l:List V},GH k l=true-> ∀ v∈l,v.kd=some k:=by
 intro l;induction l with
 |nil=>intro _ v hv; cases hv
 |cons u r ih =>
  intro q v hv;simp only[GH,aD] at q;rcases bm.1 hv with rfl|hv
  ·have:=q.1;split at this
   ·rename_i k' e; rw[e,fA this]
   ·cases this
  ·exact ih q.2 v hv
theorem ZA: ∀ {l:List V},Fb h l=true->GH 0 l=true->Bf h.au (V.aQ l)=true:=by
 intro l;induction l with
 |nil=>intro _ _; rfl
 |cons v r ih =>
  intro q k;have hk:=KF k v (by simp);simp only[Fb,GH,aD] at q k;simp only[V.aQ,Bf,aD];exact⟨V.abV q.1 hk,ih q.2 k.2⟩
theorem abY: ∀ {ps:List (Nat×Nat×X)} {vs z l:List V},XQ ps vs z=some l->(ps.map fun p=>s.ev p.2.2)=V.aQ vs ->
  II (V.aQ z) (ps.map fun p=>(p.1,p.2.1,s.ev p.2.2))=true/\JC (V.aQ z) (ps.map fun p=>(p.1,p.2.1,s.ev p.2.2))=V.aQ l:=by
 intro ps;induction ps with
 |nil =>
  intro vs z l q he;cases vs with
  |nil=>cases q; exact⟨rfl,rfl⟩
  |cons v vs=>simp[V.aQ] at he
 |cons p ps ih =>
  intro vs z l q he;obtain⟨off,n,x⟩:=p;cases vs with
  |nil=>simp[V.aQ] at he
  |cons v vs =>
   simp only[XQ] at q;split at q
   ·rename_i c hc;obtain⟨g,q⟩:=aU q;simp only[bp,V.aQ,eB] at he;simp only[aD] at g;have e1:=fA g.1;obtain⟨i1,i2⟩:=ih q he.2;simp only[bp,II,JC,aD];have ec:(s.ev x).cells=V.aQ c:=by rw[he.1]; exact V.Jb hc
    simp only[yP,MK,ML] at i1 i2;simp only[ec,dA];refine⟨⟨⟨by simpa using e1,g.2⟩,i1⟩,i2⟩
   ·cases q
theorem aha(R:Rp m s.fr)(hh:s.hp=h.au){z:List T}{ps:List (Nat×Nat×X)}{r:V}{sd:Sd}(q:mkZ m h z ps=some (r,sd))(hs:sd.holds):Ok s (.mk z ps) r:=by
 unfold mkZ at q;split at q
 ·rename_i vs s' hb;split at q
  ·rename_i l hl;obtain⟨g,q⟩:=aU q;cases q;have he:=tX R hb hs;have he':(ps.map fun p=>s.ev p.2.2)=V.aQ vs:=by rw[<- he]; simp
   obtain⟨i1,i2⟩:=abY hl he';rw[Eo] at i1 i2;unfold Ok; simp only[qc,qt];rw[i1,i2,he',hh,Jc g];exact⟨rfl,rfl⟩
  ·cases q
 ·cases q
theorem XV{k n:Nat}: ∀ {ps:List (Nat×X)} {vs z l:List V},abR n ps vs z=some l->(ps.map fun p=>s.ev p.2)=V.aQ vs->GH k vs=true ->
  Ls k n (ps.map fun p=>(p.1,s.ev p.2))=true/\tC (V.aQ z) (ps.map fun p=>(p.1,s.ev p.2))=V.aQ l:=by
 intro ps;induction ps with
 |nil =>
  intro vs z l q he _;cases vs with
  |nil=>cases q; exact⟨rfl,rfl⟩
  |cons v vs=>simp[V.aQ] at he
 |cons p ps ih =>
  intro vs z l q he hk;obtain⟨i,x⟩:=p;cases vs with
  |nil=>simp[V.aQ] at he
  |cons v vs =>
   simp only[abR] at q;obtain⟨g,q⟩:=aU q;simp only[bp,V.aQ,eB] at he;have hkv:=KF hk v (by simp);simp only[GH,aD] at hk;obtain⟨i1,i2⟩:=ih q he.2 hk.2;have e:V.aQ (z.set i v)=(V.aQ z).set i (s.ev x):=by rw[he.1]; simp[iP,List.map_set]
   rw[e] at i2;simp only[bp,Ls,tC,aD];refine⟨⟨⟨?_,g⟩,i1⟩,i2⟩;rw[he.1,V.Wy hkv]; simp
theorem ahb(R:Rp m s.fr)(hh:s.hp=h.au){ty k:Nat}{z:T}{n:Nat}{ps:List (Nat×X)}{r:V}{sd:Sd}(q:msZ m h k z n ps=some (r,sd))(hs:sd.holds):Ok s (.ms ty k z n ps) r:=by
 unfold msZ at q;split at q
 ·rename_i vs s' hb;split at q
  ·rename_i l hl;obtain⟨g,q⟩:=aU q;have hs':s'.holds/\r.aI= .sl k true (V.aQ l):=by
    split at q
    ·rename_i w hw;cases q; exact⟨hs,by simp only[V.aI]; rw[Rw.Eo hw]⟩
    ·cases q; exact⟨hs,rfl⟩
   have he:=tX R hb hs'.1;have he':(ps.map fun p=>s.ev p.2)=V.aQ vs:=by rw[<- he]; simp
   simp only[aD] at g;obtain⟨⟨⟨⟨⟨⟨g1,g2⟩,g3⟩,g4⟩,g5⟩,g6⟩,g7⟩:=g;obtain⟨i1,i2⟩:=XV hl he' g3;have e:V.aQ (List.replicate n (Ja z))=List.replicate n z:=by rw[iP,List.map_replicate,BD]
   rw[e] at i2;unfold Ok; simp only[qc,qt];rw[i1,i2,he',hh,Jc g4,V.fE _ g5,g1,g2,g6,g7,hs'.2];exact⟨rfl,rfl⟩
  ·cases q
 ·cases q
theorem MO(R:Rp m s.fr){x:Option X}{v:Option V}{sd:Sd}(q:TG m x=some (v,sd))(hs:sd.holds):x.map s.ev=v.map V.aI:=by
 cases x with
 |none=>cases q; rfl
 |some x =>
  simp only[TG] at q;split at q
  ·rename_i u hu;cases q;simp only[bu]; rw[R.ev hu,dW (v:=u) (u:=u.bare.1) (s:=u.bare.2) rfl hs]
  ·cases q
theorem Jd{k k':Nat}{r:Rw}(g:kOk k k' r=true):k'=k\/r.aQ=[]:=by
 unfold kOk at g;split at g
 ·exact .inr rfl
 ·exact .inl (fA g)
theorem TM{k k':Nat}{f:Bool}{w:Rw}{lo hi mx:Option V}{r:V}{sd:Sd}(q:abS k k' f w lo hi mx=some (r,sd))(hs:sd.holds) :
  slC k (.sl k' f w.aQ) (lo.map V.aI) (hi.map V.aI) (mx.map V.aI)/\SA k (.sl k' f w.aQ) (lo.map V.aI) (hi.map V.aI) (mx.map V.aI)=r.aI:=by
 unfold abS at q;split at q
 ·obtain⟨g,q⟩:=aU q; cases q;simp only[eN,slC,SA,V.aI];exact⟨Jd g,trivial⟩
 ·obtain⟨g,q⟩:=aU q; cases q;simp only[Sd.holds,Rw.vX] at hs;simp only[eN,bu,slC,SA,V.aI,Rw.TI,Rw.fD];exact⟨⟨Jd g,hs⟩,trivial⟩
 ·obtain⟨g,q⟩:=aU q; cases q;simp only[Sd.holds,Rw.vX] at hs;simp only[eN,bu,slC,SA,V.aI,Rw.Hr,Rw.fD];exact⟨⟨Jd g,hs⟩,trivial⟩
 ·obtain⟨g,q⟩:=aU q; cases q;simp only[Sd.holds,Rw.vX] at hs;simp only[eN,bu,slC,SA,V.aI,Rw.Hr,Rw.TI,Rw.fD];exact⟨⟨Jd g,hs.1,hs.2.1,hs.2.2.2⟩,trivial⟩
 ·obtain⟨g,q⟩:=aU q; cases q;simp only[Sd.holds,Rw.vX] at hs;simp only[eN,bu,slC,SA,V.aI,Rw.Hr,Rw.fD];exact⟨⟨Jd g,hs.1,hs.2.1,hs.2.2.2⟩,trivial⟩
 ·cases q
theorem abZ{k i ty ko:Nat}{w:Rw}{lo hi mx:Option V}{r:V}{sd:Sd}(q:abT k i ko w lo hi mx=some (r,sd))(hs:sd.holds) :
  GK k ⟨ty,ko,w.aQ⟩ (lo.map V.aI) (hi.map V.aI) (mx.map V.aI)/\BQ i ⟨ty,ko,w.aQ⟩ (lo.map V.aI) (hi.map V.aI) (mx.map V.aI)=r.aI:=by
 unfold abT at q;split at q
 ·obtain⟨g,q⟩:=aU q; cases q;simp only[Sd.holds,Rw.vX] at hs;simp only[eN,bu,GK,BQ,V.aI,Rw.fD];exact⟨⟨fA g,hs⟩,trivial⟩
 ·obtain⟨g,q⟩:=aU q; cases q;simp only[Sd.holds,Rw.vX] at hs;simp only[eN,bu,GK,BQ,V.aI,Rw.fD];exact⟨⟨fA g,hs⟩,trivial⟩
 ·obtain⟨g,q⟩:=aU q; cases q;simp only[Sd.holds,Rw.vX] at hs;simp only[eN,bu,GK,BQ,V.aI,Rw.fD];exact⟨⟨fA g,hs.1,hs.2.1,hs.2.2.2⟩,trivial⟩
 ·cases q
theorem ZB{k i ty ko:Nat}{w:Rw}{xs:List V}{lo hi mx:Option V}{r:V}{sd:Sd}(q:Wx k i ko w xs lo hi mx=some (r,sd))(hs:sd.holds) :
  GK k ⟨ty,ko,w.aQ++V.aQ xs⟩ (lo.map V.aI) (hi.map V.aI) (mx.map V.aI)/\BQ i ⟨ty,ko,w.aQ++V.aQ xs⟩ (lo.map V.aI) (hi.map V.aI) (mx.map V.aI)=r.aI:=by
 unfold Wx at q;split at q
 ·obtain⟨g,q⟩:=aU q; cases q;simp only[Sd.holds,Rw.vX] at hs;simp only[eN,bu,GK,BQ,V.aI];refine⟨⟨fA g,hs.1,?_⟩,trivial⟩;have:=hs.2;simp only[aL,Rw.fD]; omega
 ·split at q
  ·simp only[V.aQ,cT]; exact abZ q hs
  ·cases q
theorem XW(R:Rp m s.fr){b:Bool}{k:Nat}{x:X}{lo hi mx:Option X}{r:V}{sd:Sd}(q:slX m h b k x lo hi mx=some (r,sd))(hs:sd.holds) :
  ∃ v lo' hi' mx' s',slZ h b k v lo' hi' mx'=some (r,s')/\s'.holds/\s.ev x=v.aI/\lo.map s.ev=lo'.map V.aI/\hi.map s.ev=hi'.map V.aI/\mx.map s.ev=mx'.map V.aI:=by
 obtain⟨v,s',q,hs,hv⟩:=pR R q hs;split at q
 ·rename_i lo' s1 hi' s2 mx' s3 e1 e2 e3;split at q
  ·rename_i u s4 e4;cases q;rw[Sd.pO,Sd.pO,Sd.pO] at hs;exact⟨v,lo',hi',mx',s4,e4,hs.2.2.2,hv,MO R e1 hs.1,MO R e2 hs.2.1,MO R e3 hs.2.2.1⟩
  ·cases q
 ·cases q
theorem air(R:Rp m s.fr){k:Nat}{x:X}{lo hi mx:Option X}{r:V}{sd:Sd}(q:slX m h false k x lo hi mx=some (r,sd))(hs:sd.holds):Ok s (.sl k x lo hi mx) r:=by
 obtain⟨v,lo',hi',mx',s',q,hs,hv,e1,e2,e3⟩:=XW R q hs;unfold Ok; simp only[qc,qt]; rw[hv,e1,e2,e3];unfold slZ at q;split at q
 ·exact TM q hs
 ·cases q
 ·cases q
theorem ahc(R:Rp m s.fr)(hh:s.hp=h.au){k:Nat}{x:X}{lo hi mx:Option X}{r:V}{sd:Sd}(q:slX m h true k x lo hi mx=some (r,sd))(hs:sd.holds):Ok s (.slx k x lo hi mx) r:=by
 obtain⟨v,lo',hi',mx',s',q,hs,hv,e1,e2,e3⟩:=XW R q hs;unfold Ok; simp only[qc,qt]; rw[hv,e1,e2,e3];unfold slZ at q;split at q
 ·exact TM q hs
 ·simp only[bS] at q;split at q
  ·rename_i i _ ty ko w xs e;simp only[V.aI,hh,aP e,OV.ay];exact ZB q hs
  ·cases q
 ·cases q
theorem ahd(R:Rp m s.fr)(hh:s.hp=h.au){f:FuncId}{cap:List X}{r:V}{sd:Sd}(q:mfZ m h f cap=some (r,sd))(hs:sd.holds):Ok s (.mf f cap) r:=by
 unfold mfZ at q;split at q
 ·rename_i l s' hb;obtain⟨g,q⟩:=aU q;cases q;simp only[aD] at g;unfold Ok; simp only[qc,qt];rw[tX R hb hs,hh,ZA g.1.1 g.1.2,g.2];exact⟨rfl,rfl⟩
 ·cases q
theorem ahe{f:FuncId}{x:X}{v r:V}{sd:Sd}(q:mbZ f v=some (r,sd))(h1:s.ev x=v.aI):Ok s (.mb f x) r:=by
 unfold mbZ at q;split at q
 ·obtain⟨g,q⟩:=aU q; cases q;unfold Ok; simp only[qc,qt]; rw[h1]; exact⟨cI.mp g,rfl⟩
 ·obtain⟨g,q⟩:=aU q; cases q;rename_i d;unfold Ok; simp only[qc,qt]; rw[h1]; simp only[V.aI]; rw[Dat.I9]; exact⟨cI.mp g,rfl⟩
 ·cases q
theorem ab1(R:Rp m s.fr)(hh:s.hp=h.au){op:oC}{r:V}{sd:Sd}(q:qz m h op=some (r,sd))(hs:sd.holds):bI op=true/\Ok s op r:=by
 unfold qz at q;split at q
 ·split at q
  ·rename_i v e; cases q;exact⟨rfl,trivial,R.ev e⟩
  ·cases q
 ·obtain⟨c,s',q,hs,hc⟩:=pR R q hs;split at q
  ·rename_i t va vb e1 e2;exact⟨rfl,abW R e1 e2 q hs hc⟩
  ·cases q
 ·obtain⟨u,v,s',q,hs,h1,h2⟩:=Ep R q hs;exact⟨rfl,aeD q hs h1 h2⟩
 ·obtain⟨u,v,s',q,hs,h1,h2⟩:=Ep R q hs;split at q
  ·cases q; refine⟨rfl,?_⟩; unfold Ok; simp only[qc,qt]; rw[h1,h2]; exact⟨rfl,rfl⟩
  ·cases q
 ·obtain⟨u,s',q,hs,h1⟩:=pR R q hs;split at q
  ·cases q; refine⟨rfl,?_⟩; unfold Ok; simp only[qc,qt]; rw[h1]; exact⟨rfl,rfl⟩
  ·cases q
 ·obtain⟨u,s',q,hs,h1⟩:=pR R q hs;split at q
  ·cases q; refine⟨rfl,?_⟩; unfold Ok; simp only[qc,qt]; rw[h1]; simp only[V.aI,gH]; rw[XR hs]
  ·cases q; refine⟨rfl,?_⟩; unfold Ok; simp only[qc,qt]; rw[h1]; simp only[V.aI,gH]; rw[XR hs]
  ·cases q; refine⟨rfl,?_⟩; unfold Ok; simp only[qc,qt]; rw[h1]; simp only[V.aI,gH]; rw[XR hs]
  ·cases q
 ·obtain⟨u,s',q,hs,h1⟩:=pR R q hs;split at q
  ·cases q; refine⟨rfl,?_⟩; unfold Ok; simp only[qc,qt]; rw[h1]; simp only[V.aI,gH]; rw[aiq hs.1 hs.2]
  ·cases q; refine⟨rfl,?_⟩; unfold Ok; simp only[qc,qt]; rw[h1]; exact⟨trivial,rfl⟩
  ·cases q
 ·obtain⟨u,s',q,hs,h1⟩:=pR R q hs;split at q
  ·cases q; refine⟨rfl,?_⟩; unfold Ok; simp only[qc,qt]; rw[h1]; simp only[V.aI,gH]; rw[ag5 hs.1 hs.2]
  ·cases q
 ·obtain⟨u,s',q,hs,h1⟩:=pR R q hs; exact⟨rfl,ag6 hh q h1⟩
 ·obtain⟨u,v,s',q,hs,h1,h2⟩:=Ep R q hs; exact⟨rfl,abX hh q hs h1 h2⟩
 ·obtain⟨u,v,s',q,hs,h1,h2⟩:=Ep R q hs; exact⟨rfl,ag7 q hs h1 h2⟩
 ·obtain⟨u,s',q,hs,h1⟩:=pR R q hs; exact⟨rfl,WC hh q hs h1⟩
 ·obtain⟨u,s',q,hs,h1⟩:=pR R q hs; exact⟨rfl,XU hh q h1⟩
 ·obtain⟨u,v,s',q,hs,h1,h2⟩:=Ep R q hs; exact⟨rfl,ag8 q h1 h2⟩
 ·exact⟨rfl,aha R hh q hs⟩
 ·exact⟨rfl,ahb R hh q hs⟩
 ·exact⟨rfl,air R q hs⟩
 ·exact⟨rfl,ahc R hh q hs⟩
 ·obtain⟨u,s',q,hs,h1⟩:=pR R q hs; exact⟨rfl,ag9 q h1⟩
 ·exact⟨rfl,ahd R hh q hs⟩
 ·obtain⟨u,v,s',q,hs,h1,h2⟩:=Ep R q hs; exact⟨rfl,aeG q h1 h2⟩
 ·obtain⟨u,s',q,hs,h1⟩:=pR R q hs; exact⟨rfl,ahe q h1⟩
 ·cases q
end
structure ah(P:Program)(dr:Bool)(g:Option Bool)(f:FuncId)(args:List V)(h:Hz)(n:Nat)(K:V->Hz->Prop)(KW:Nat->V->Hz->Prop):Prop where
 ok:(match g with
  |none=>aO P f (V.aQ args) h.au n fun t hp=> ∃ v h',t=v.aI/\hp=h'.au/\(dr=true->h'=h/\t.free=true)/\K v h'
  |some b=>(∃ v,(b=true->aO P f (V.aQ args) h.au n fun t hp=>t=v.aI/\hp=h.au)/\v.free=true/\K v h) \/
   (dr=false/\(b=true->aO P f (V.aQ args) h.au n fun t hp=> ∃ v h',t=v.aI/\hp=h'.au/\K v h')/\(b=false->K (.int 0) h))) \/
  (g=none/\dr=false/\ ∃ k,jE P f (V.aQ args) h.au n k fun t hp=> ∃ v h',t=v.aI/\hp=h'.au/\KW k v h') \/
  (g=none/\dr=true/\h.get n=none/\aO P f (V.aQ args) h.au n fun t hp=> ∃ v o,t=v.aI/\hp=Hz.au ((n,some o)::h)/\KW 0 v ((n,some o)::h))
structure XY(P:Program)(f:FuncId)(args:List V)(h:Hz)(n:Nat)(K:V->Hz->Prop):Prop where
 ok: ∃ (v:V) (o:Option OV),v.aI.ids (fun i=>i=n)/\(∀ ob,o=some ob->T.bG ob.ay.l=true) /\
  (∀ hp:Hp,(∀ i ob,h.au i=some ob->hp i=some ob)->aO P f (V.aQ args) hp n fun t' h'=>t'=v.aI/\h'=iL hp n (o.map OV.ay)) /\
  K v (match o with|none=>h|some o=>(n,some o)::h)
structure ZC(P:Program)(f:FuncId)(cap args:List V)(h:Hz)(n:Nat)(K:V->Hz->Prop):Prop where
 ok:wK P (.fn f (V.aQ cap)) (V.aQ args) h.au n fun t hp=> ∃ v h',t=v.aI/\hp=h'.au/\K v h'
def ajr(dr:Bool)(g:Option Bool)(a b:Prop):Prop :=
 match dr with
 |true=>False
 |false=>match g with
  |none=>a
  |some c=>Fork c a b
def FZ(dr fl:Bool)(a b c:Prop):Prop :=
 match dr with
 |false=>a
 |true=>match fl with
  |false=>b
  |true=>c
inductive aaQ(p a b:Prop):Prop where
 |mk:(p->a)->b->aaQ p a b
inductive ajs(o:Option (List Bool))(yes:List Bool->Prop)(no:Prop):Prop where
 |mk:(∀ l,o=some l->yes l)->(o=none->no)->ajs o yes no
def V.seq(v:V)(K:V->Prop):Prop :=
 match v with
 | .int n=>K (.int n)
 | .bool b=>K (.bool b)
 | .u8 n=>K (.u8 n)
 | .str s=>K (.str s)
 | .dat d=>K (.dat d)
 | .agg l=>K (.agg l)
 | .row k f r=>K (.row k f r)
 | .Cj k f l=>K (.Cj k f l)
 | .ref k v=>K (.ref k v)
 | .own i=>K (.own i)
 | .inn i=>K (.inn i)
 | .pin i j o=>K (.pin i j o)
 | .ptr i j o=>K (.ptr i j o)
 | .oG i a b=>K (.oG i a b)
 | .fn f l=>K (.fn f l)
 | .bU l=>K (.bU l)
 | .cnd b v=>K (.cnd b v)
 | .raw t=>K (.raw t)
theorem V.seq_eq(v:V)(K:V->Prop):v.seq K=K v:=by cases v<;>rfl
def iO(d:Option Nat)(v:V)(m:Fm):Fm :=
 match d with
 |some d=>(d,v)::m
 |none=>m
def sG:Option Bool->V->V
 |none,v=>v
 |some b,.cnd c v=>.cnd (b&&c) v
 |some b,v=>.cnd b v
theorem Je(v:V):(sG (some true) v).aI=v.aI:=by cases v<;>rfl
theorem WE(v:V):(sG (some false) v).aI=T.un:=by cases v<;>rfl
def WG(m:Fm):Option (Nat×Bool)->Option (Option Bool)
 |none=>some none
 |some (g,w)=>match m.get g with
  |some (.bool b)=>some (some (bif w then b else !b))
  |some (.cnd c (.bool b))=>some (some (c&&(bif w then b else !b)))
  |_=>none
def ltX(nx:Nat)(m:Fm):List X->Bool
 |[]=>true
 |x::r=>(match Dv m x with|some v=>T.lt nx v.aI|none=>false)&&ltX nx m r
def ab2(nx:Nat)(m:Fm):oC->Bool
 | .st _ x _=>match Dv m x with|some v=>T.newer nx v.aI|none=>false
 | .app _ _ _ x _=>match Dv m x with|some v=>T.newer nx v.aI|none=>false
 | .VL _ _ _=>false
 | .call _ _=>true
 | .iD _ _=>true
 |op=>ltX nx m op.xs
def aeH(i:Nat)(m:Fm):List X->Bool
 |[]=>true
 |x::r=>(match Dv m x with|some v=>T.nid i v.aI|none=>false)&&aeH i m r
def neB(m:Fm)(xs:List X):List Nat->Bool
 |[]=>true
 |d::r=>(bif Nat.blt d 1000000 then(match m.get d with|some (.ptr i _ _)=>aeH i m xs|_=>false)
   else bif Nat.beq d 1000000 then ltX 10000 m xs else(match xs with|x::_=>(match Dv m x with|some v=>T.newer 10000 v.aI|none=>false)|[]=>false))&&neB m xs r
def JJ(nx:Nat)(o:aJ)(m:Fm):Bool:=(!o.fl||ab2 nx m o.op)&&neB m o.op.xs o.ne
def isZero:V->Bool
 | .int (.ofNat 0)=>true
 |_=>false
def adU(n:Nat):T->Option Rw
 | .lit (.int .i64 z)=>some (.ints (List.replicate n z))
 | .lit (.bool z)=>some (.bools (List.replicate n z))
 | .lit (.string z)=>some (.strs (List.replicate n z.data.toList))
 |_=>none
def Rw.set(j:Nat)(v:V)(r:Rw):Option Rw :=
 match r,v with
 | .ints l,.int n=>some (.ints (l.set j n))
 | .bools l,.bool n=>some (.bools (l.set j n))
 | .strs l,.str n=>some (.strs (l.set j n))
 | .rules l,.dat (.rule n)=>some (.rules (l.set j n))
 | .clauses l,.dat (.clause n)=>some (.clauses (l.set j n))
 | .elems l,.dat (.elem n)=>some (.elems (l.set j n))
 | .dV l,.row 0 false (.ints n)=>some (.dV (l.set j n))
 | .mM l,.row 0 false (.bools n)=>some (.mM (l.set j n))
 | .mO l,.row 0 false (.dV n)=>some (.mO (l.set j n))
 |_,_=>none
def ahf(h:Hz)(k:Nat):V->Option (Rw×List V)
 | .row k' _ r=>dO (kOk k k' r) (some (r,[]))
 | .Cj k' _ l=>dO (Nat.beq k' k) (some (.nil,l))
 | .own o=>match h.get o with
  |some (.row _ ko r x)=>dO (Nat.beq ko k) (some (r,x))
  |_=>none
 |_=>none
def ahg(r:Rw)(x:List V)(r':Rw)(x':List V):Option (Rw×List V) :=
 match x,r' with
 |[],r'=>match r.app r' with|some w=>some (w,x')|none=>none
 |x,.nil=>some (r,x++x')
 |_,_=>none
def mV(r:Rw)(x:List V):Nat :=
 match x with
 |[]=>r.len
 |x=>r.len+x.length
def mD(bytes:Nat)(a b:Nat):Prop:=(a+b)*bytes<=140737488355328/\a+b<=1152921504606846976
def setCells(v:V)(off:Nat)(u:V):Option V :=
 match v.cells,u.cells with
 |some l,some c=>some (.agg (l.take off++c++l.drop (off+c.length)))
 |_,_=>none
def QL:List V->(List V->Prop)->Prop
 |[],K=>K []
 |v::r,K=>QL r fun r'=>K (v::r')
def V.force(v:V)(K:V->Prop):Prop :=
 match v with
 | .agg l=>QL l fun l=>K (.agg l)
 |v=>K v
theorem ZE: ∀ {l:List V} {K:List V->Prop},QL l K=K l:=by
 intro l;induction l with
 |nil=>intro K; rfl
 |cons v r ih=>intro K; show QL r (fun r'=>K (v::r'))=_; rw[ih]
theorem V.force_eq(v:V)(K:V->Prop):v.force K=K v:=by
 cases v<;>first|rfl|exact ZE
structure aeI(c p a b:Prop):Prop where
 ok:(c\/b)/\p/\a
theorem aeI.one{c p a b:Prop}(h:c/\p)(k:a):aeI c p a b:=⟨.inl h.1,h.2,k⟩
structure AtZ(y:List V)(j:Nat)(K:V->Prop):Prop where
 ok: ∃ v,y[j]? =some v/\K v
structure PD(h:Hz)(i:Nat)(K:Nat->Rw->Prop):Prop where
 ok: ∃ ty k r,h.get i=some (.row ty k r [])/\K k r
structure Ou(h:Hz)(i j k:Nat)(v:V)(K:Hz->Prop):Prop where
 ok: ∃ ty r r' h',h.get i=some (.row ty k r [])/\r.set j v=some r'/\r.rng j/\h'.au=upd h.au i (some (OV.row ty k r' []).ay)/\K h'
structure ais(h:Hz)(i ty k:Nat)(K:Rw->Hz->Prop):Prop where
 ok: ∃ r h',h.get i=some (.row ty k r [])/\h'.au=upd h.au i none/\K r h'
def aeJ(dr:Bool)(d:Option Nat)(n:Nat)(m:Fm)(h:Hz)(K:Fm->Hz->Prop):oC->Prop
 | .box ty k x=>match Dv m x with
  |some v=>match v.bare with
   |(v,s)=>bif GH k [v]&&v.kW h&&zD k then s.vc none (K (iO d (.ptr n 0 0) m) ((n,some (.box ty k v))::h)) else False
  |none=>False
 | .al ty k z=>bif z.kd==k&&z.kW h.au&&z.free&&zD k then K (iO d (.ptr n 0 0) m) ((n,some (.box ty k (Ja z)))::h) else False
 | .make ty k bytes z x y=>match Dv m x,Dv m y with
  |some (.int a),some (.int b)=>bif z.kd==k&&z.kW h.au&&z.free&&zD k then
    (match (bif isZero (.int a) then some .nil else adU a.toNat z) with
    |some r=>VC (0<=a/\a<=b/\b*bytes<=140737488355328/\b<=1152921504606846976) (K (iO d (.own n) m) ((n,some (.row ty k r []))::h))
    |none=>VC (0<=a/\a<=b/\b*bytes<=140737488355328/\b<=1152921504606846976) (K (iO d (.own n) m) ((n,some (.gen ty k (List.replicate a.toNat (Ja z))))::h))) else False
  |_,_=>False
 | .st k x v=>match Dv m x,Dv m v with
  |some (.ptr i j off),some v=>match v.bare with
   |(v,s)=>bif GH k [v]&&v.kW h then
    (match h.get i with
    |some (.box ty ko w)=>bif Nat.beq j 0 then
      (bif Nat.beq off 0&&Nat.beq ko k then s.vc none (K m ((i,some (.box ty ko v))::h))
      else bif !(Nat.beq ko 0)&&qh (bn ko) off k then(match setCells w off v with
       |some w'=>w'.force fun w'=>s.vc none (K m ((i,some (.box ty ko w'))::h))
       |none=>False) else False) else False
    |some (.row ty ko r [])=>bif Nat.beq off 0&&Nat.beq ko k then(match r.set j v with
      |some r'=>s.vc none (VC (r.rng j) (K m ((i,some (.row ty ko r' []))::h)))
      |none=>s.vc none (VC (r.rng j) (K m ((i,some (.gen ty ko (r.vs.set j v)))::h)))) else False
    |some (.gen ty ko y)=>bif Nat.beq off 0&&Nat.beq ko k then s.vc none (VC (j<y.length) (K m ((i,some (.gen ty ko (y.set j v)))::h))) else False
    |_=>False) else False
  |some x,some v=>(match x.bare with
   |(.pin i j off,s0)=>match v.bare with
    |(v,s)=>bif GH k [v]&&v.kW h&&Nat.beq off 0 then(s0.and s).vc none (Ou h i j k v fun h'=>K m h') else False
   |_=>False)
  |_,_=>False
 | .ld k x=>match Dv m x with
  |some v=>(match v.bare with
   |(.ptr i j off,s)=>(match h.get i with
    |some (.gen _ ko y)=>bif Nat.beq off 0&&Nat.beq ko k then s.vc none (AtZ y j fun v=>v.seq fun v=>K (iO d v m) h) else False
    |_=>False)
   |(.pin i j off,s)=>s.vc none (PD h i fun ko r=>match ldR k j off ko r with
    |some (v,s')=>s'.vc none (v.seq fun v=>K (iO d v m) h)
    |none=>False)
   |_=>False)
  |none=>False
 | .ia k x i=>match Dv m x,Dv m i with
  |some v,some w=>(match v.bare,w.bare with
   |(.inn o,s),(.int n,s')=>(s.and s').vc none (PD h o fun ko r=>bif Nat.beq ko k then VC (r.rng n) (K (iO d (.pin o n.toNat 0) m) h) else False)
   |_,_=>False)
  |_,_=>False
 | .len str x=>match Dv m x with
  |some v=>(match v.bare with
   |(.inn o,s)=>s.vc none (PD h o fun ko r=>bif !str&& !(Nat.beq ko iE) then r.lenV.seq fun v=>K (iO d v m) h else False)
   |_=>False)
  |none=>False
 | .app ty k bytes x y=>match Dv m x,Dv m y with
  |some x,some y=>match ahf h k y with
   |some (r',x')=>(match x with
    | .row _ true .nil=>VC (mD bytes 0 (mV r' x')) (K (iO d (.own n) m) ((n,some (.row ty k r' x'))::h))
    | .row k' true r=>bif Nat.beq k' k then(match r.app r' with
     |some w=>aeI (r.len=0\/0<mV r' x') (mD bytes r.len (mV r' x')) (K (iO d (.own n) m) ((n,some (.row ty k w x'))::h)) (dr=false/\K (iO d (.row k' true r) m) h)
     |none=>False) else False
    | .own i=>(match h.get i with
     |some (.row ty' ko r x)=>bif Nat.beq ko k&&Nat.beq ty' ty then(match ahg r x r' x' with
      |some (w,z)=>VC (mD bytes (mV r x) (mV r' x')) (K (iO d (.own n) m) ((n,some (.row ty k w z))::(i,none)::h))
      |none=>False) else False
     |some (.gen ty' ko y)=>bif Nat.beq ko k&&Nat.beq ty' ty then VC (mD bytes y.length (mV r' x')) (K (iO d (.own n) m) ((n,some (.gen ty k (y++(r'.vs++x'))))::(i,none)::h)) else False
     |_=>False)
    | .inn i=>ais h i ty k fun r h'=>match r.app r' with
     |some w=>VC (mD bytes r.len (mV r' x')) (K (iO d (.own n) m) ((n,some (.row ty k w x'))::h'))
     |none=>False
    |_=>False)
   |none=>False
  |_,_=>False
 | .VL k z x=>match Dv m x with
  |some (.oG i lo hi)=>match h.get i with
   |some (.row ty ko r [])=>bif Nat.beq ko k&&z.kd==k&&z.kW h.au&&z.free then
     VC (lo<=hi/\hi=r.len) (match d with
      |none=>K m ((i,some (.row ty ko (r.take lo) (List.replicate (hi-lo) (Ja z))))::h)
      |some _=>K (iO d (.raw T.un) m) ((i,some (.row ty ko (r.take lo) (List.replicate (hi-lo) (Ja z))))::h)) else False
   |_=>False
  |_=>False
 | .Iu ty k z nn ps=>match Dw m (ps.map fun p=>p.2) with
  |some (vs,s)=>match abR nn ps vs (List.replicate nn (Ja z)) with
   |some l=>bif (z.kd==k)&&z.free&&GH k vs&&Fb h vs&&Nat.ble (nn*bn k) 16777216&&zD k then s.vc none (K (iO d (.own n) m) ((n,some (.row ty k .nil l))::h)) else False
   |none=>False
  |none=>False
 | .zY x=>match Dv m x with
  |some (.row _ _ r)=>aaQ (r.len=0) (K (iO d (.bool true) m) h) (K (iO d (.bool false) m) h)
  |some (.own i)=>match h.get i with
   |some (.row _ ko r [])=>bif Nat.beq ko iE then False else aaQ (r.len=0) (K (iO d (.bool true) m) h) (K (iO d (.bool false) m) h)
   |_=>False
  |_=>False
 |_=>False
def phZ:oC->V
 | .not _=>.bool false
 |_=>.int 0
def ahh(P:Program)(dr:Bool)(nx n:Nat)(o:aJ)(KK:Nat->Fm->Hz->Prop)(m:Fm)(h:Hz):Prop :=
 match WG m o.g with
 |none=>False
 |some g=>bif JJ nx o m then
   (match o.op with
   | .call f xs=>(match Dw m xs with
    |some (l,s)=>s.vc g (match g with
     |none=>FZ dr o.fl (ah P false none f l h n (fun v h'=>v.seq fun v=>KK 0 (iO o.d v m) h') (fun k v h'=>v.seq fun v=>KK k (iO o.d v m) h')) (ah P true none f l h n (fun v h'=>v.seq fun v=>KK 0 (iO o.d v m) h') (fun _ _ _=>False)) (ah P false none f l h n (fun v h'=>v.seq fun v=>KK 0 (iO o.d v m) h') (fun _ _ _=>False))
     |some b=>FZ dr o.fl (ah P false (some b) f l h n (fun v h'=>v.seq fun v=>KK 0 (iO o.d (sG (some b) v) m) h') (fun _ _ _=>False)) (ah P true (some b) f l h n (fun v h'=>v.seq fun v=>KK 0 (iO o.d (sG (some b) v) m) h') (fun _ _ _=>False)) (ah P false (some b) f l h n (fun v h'=>v.seq fun v=>KK 0 (iO o.d (sG (some b) v) m) h') (fun _ _ _=>False)))
    |none=>False)
   | .iD x xs=>(match Dv m x,Dw m xs with
    |some v,some (l,s)=>(match v.bare with
     |(.fn f cap,s0)=>(s0.and s).vc g (bif Nat.blt f 4096 then FZ dr o.fl (ah P false g f (l++cap) h n (fun v h'=>v.seq fun v=>KK 0 (iO o.d (sG g v) m) h') (fun _ _ _=>False)) (ah P true g f (l++cap) h n (fun v h'=>v.seq fun v=>KK 0 (iO o.d (sG g v) m) h') (fun _ _ _=>False)) (ah P false g f (l++cap) h n (fun v h'=>v.seq fun v=>KK 0 (iO o.d (sG g v) m) h') (fun _ _ _=>False)) else bif Nat.blt f 8192 then FZ dr o.fl (ah P false g (f % 4096) (.agg cap::l) h n (fun v h'=>v.seq fun v=>KK 0 (iO o.d (sG g v) m) h') (fun _ _ _=>False)) (ah P true g (f % 4096) (.agg cap::l) h n (fun v h'=>v.seq fun v=>KK 0 (iO o.d (sG g v) m) h') (fun _ _ _=>False)) (ah P false g (f % 4096) (.agg cap::l) h n (fun v h'=>v.seq fun v=>KK 0 (iO o.d (sG g v) m) h') (fun _ _ _=>False)) else ajr dr g (ZC P f cap l h n (fun v h'=>v.seq fun v=>KK 0 (iO o.d v m) h')) (KK 0 (iO o.d (.cnd false (.int 0)) m) h))
     |_=>False)
    |_,_=>False)
   |op=>(match qz m h op with
    |some (v,s)=>s.vc g (v.seq fun v=>KK 0 (iO o.d (sG g v) m) h)
    |none=>(match g with
     |none=>aeJ dr o.d n m h (KK 0) op
     |some b=>Fork b (aeJ dr o.d n m h (KK 0) op) (KK 0 (iO o.d (.cnd false (phZ op)) m) h))))
   else False
def adZ(P:Program)(nx n:Nat)(o:aJ)(KK:Nat->Fm->Hz->Prop)(m:Fm)(h:Hz):Prop :=
 match o.op,o.g with
 | .call f xs,none=>bif o.fl&&JJ nx o m then
   (match Dw m xs with
   |some (l,s)=>s.vc none (ah P true none f l h n (fun v h'=>v.seq fun v=>KK 0 (iO o.d v m) h') (fun _ v h'=>v.seq fun v=>KK 0 (iO o.d v m) h'))
   |none=>False)
   else False
 |_,_=>False
def arZ(P:Program)(nx n:Nat)(o:aJ)(KK:Nat->Fm->Hz->Prop)(m:Fm)(h:Hz):Prop :=
 match o.op,o.g with
 | .call f xs,none=>bif o.fl&&JJ nx o m then
   (match Dw m xs with
   |some (l,s)=>s.vc none (XY P f l h n (fun v h'=>v.seq fun v=>KK 0 (iO o.d v m) h'))
   |none=>False)
   else False
 |_,_=>False
def opZ(P:Program)(dr:Bool)(nx n:Nat)(o:aJ)(KK:Nat->Fm->Hz->Prop)(m:Fm)(h:Hz):Prop :=
 match o.ar with
 |true=>arZ P nx n o KK m h
 |false=>match o.ad with
 |true=>adZ P nx n o KK m h
 |false=>ahh P dr nx n o KK m h
def TN(P:Program)(dr:Bool)(ml:Nat)(nx:Nat)(K:Fm->Hz->Nat->Prop):List aJ->Nat->Fm->Hz->Prop
 |[],_,m,h=>K m h (nx+ml)
 |o::r,i,m,h=>opZ P dr nx (nx+i) o (fun k=>TN P dr ml (nx+k) K r (i+1)) m h
abbrev Qz:=ng->Fm->Hz->Nat->Prop
def Lift(N pn:Nat)(Q:Qz)(e:ng)(s:AS):Prop:= ∃ m h,s.fr.length=N/\Rp m s.fr/\s.hp=h.au/\s.pin=pn/\Q e m h s.nx
structure aF(P:Program)(N pn:Nat)(b:bC)(Q:Qz)(m:Fm)(h:Hz)(nx:Nat):Prop where
 ok: ∀ fr,fr.length=N->Rp m fr->Ad (aw P b) (Lift N pn Q) ⟨fr,h.au,nx,pn⟩
def az(P:Program)(N pn:Nat):bC->Qz->Fm->Hz->Nat->Prop
 | .skip,Q,m,h,nx=>Q .normal m h nx
 | .reg dr ops,Q,m,h,nx=>TN P dr ops.length nx (fun m h nx=>Q .normal m h nx) ops 0 m h
 | .seq a b,Q,m,h,nx=>az P N pn a (fun e m h nx=>match e with| .normal=>az P N pn b Q m h nx|e=>Q e m h nx) m h nx
 | .cond c a b,Q,m,h,nx =>
  match Dv m c with
  |some (.bool t)=>Fork t (az P N pn a Q m h nx) (az P N pn b Q m h nx)
  |_=>False
 | .blk id b,Q,m,h,nx=>az P N pn b (fun e m h nx=>match e with| .exit j=>(bif Nat.beq j id then Q .normal m h nx else Q (.exit j) m h nx)|e=>Q e m h nx) m h nx
 | .exit id,Q,m,h,nx=>Q (.exit id) m h nx
 | .ret,Q,m,h,nx=>Q .ret m h nx
 | .loop b,Q,m,h,nx=>aF P N pn b Q m h nx
def QM(N:Nat):List aJ->Bool
 |[]=>true
 |o::r=>(match o.d with|some d=>Nat.blt d N|none=>true)&&QM N r
def lq(N:Nat):bC->Bool
 | .skip=>true
 | .reg _ ops=>QM N ops
 | .seq a b=>lq N a&&lq N b
 | .cond _ a b=>lq N a&&lq N b
 | .blk _ b=>lq N b
 | .exit _=>true
 | .ret=>true
 | .loop b=>lq N b
section
variable {P:Program} {m:Fm} {h:Hz}
theorem bK{i:Nat}{o:Option OV}:Hz.au ((i,o)::h)=upd h.au i (o.map OV.ay):=by
 funext j;simp only[Hz.au,Hz.get,upd];by_cases e:j=i
 ·subst e; simp
 ·have:Nat.beq i j=false:=by
   cases hb:Nat.beq i j with
   |false=>rfl
   |true=>exact absurd (fA hb).symm e
  simp[this,e]
theorem Rp.put{fr:List T}(R:Rp m fr){d:Option Nat}{v:V}(hd: ∀ i,d=some i->i<fr.length){s:AS}(hs:s.fr=fr):Rp (iO d v m) (s.put d v.aI).fr:=by
 subst hs;cases d with
 |none=>exact R
 |some d =>
  intro i u hu;simp only[iO,Fm.get] at hu;show(s.fr.set d v.aI)[i]? =_;cases hb:Nat.beq d i with
  |true =>
   rw[hb] at hu; simp at hu; subst hu;have:=fA hb; subst this;rw[List.getElem?_set_self (hd d rfl)]
  |false =>
   rw[hb] at hu;have hne:d≠i:=cG hb;rw[dy hne];exact R i u hu
theorem XZ{s:AS}{d:Option Nat}{t:T}:(s.put d t).fr.length=s.fr.length:=by cases d<;>simp[AS.put]
theorem kX{g:Option Bool}{k:Prop}{s:Sd}(q:s.vc g k):((g=none\/g=some true)->s.holds)/\k:=by
 unfold Sd.vc at q;split at q
 ·exact⟨fun _=>trivial,q⟩
 ·split at q
  ·obtain⟨a,b⟩:=q; exact⟨fun _=>a,b⟩
  ·obtain⟨a,b⟩:=q; exact⟨fun hg=>a (by rcases hg with e|e<;>cases e; rfl),b⟩
theorem ZF{s:AS}(R:Rp m s.fr){g:Option (Nat×Bool)}{g':Option Bool}(q:WG m g=some g'):(gv g s=some true/\(g'=none\/g'=some true))\/(gv g s=some false/\g'=some false):=by
 unfold WG at q;split at q
 ·cases q; exact .inl ⟨rfl,.inl rfl⟩
 ·rename_i d w;split at q
  ·rename_i b e;cases q;have hg:s.fr.getD d .any= .lit (.bool b):=R.getD e;simp only[gv,hg];cases w<;>cases b<;>simp
  ·rename_i c b e;cases q;have hg:s.fr.getD d .any=bif c then .lit (.bool b) else T.un:=R.getD e;cases c with
   |true=>simp only[gv,hg,bS]; cases w<;>cases b<;>simp
   |false=>simp only[gv,hg,bB]; simp
  ·cases q
theorem X0{s:AS}(R:Rp m s.fr){nx:Nat}: ∀ {xs:List X},ltX nx m xs=true->(xs.all fun x=>T.lt nx (s.ev x))=true:=by
 intro xs;induction xs with
 |nil=>intro _; rfl
 |cons x r ih =>
  intro q;simp only[ltX,aD] at q;simp only[gA,aD];refine⟨?_,ih q.2⟩;have:=q.1;split at this
  ·rename_i v e; rw[R.ev e]; exact this
  ·cases this
theorem ab3{s:AS}(R:Rp m s.fr){i:Nat}: ∀ {xs:List X},aeH i m xs=true->(xs.all fun x=>T.nid i (s.ev x))=true:=by
 intro xs;induction xs with
 |nil=>intro _; rfl
 |cons x r ih =>
  intro q;simp only[aeH,aD] at q;simp only[gA,aD];refine⟨?_,ih q.2⟩;have:=q.1;split at this
  ·rename_i v e; rw[R.ev e]; exact this
  ·cases this
theorem ahi{s:AS}(R:Rp m s.fr){xs:List X}: ∀ {l:List Nat},neB m xs l=true->IK s xs l=true:=by
 intro l;induction l with
 |nil=>intro _; rfl
 |cons d r ih =>
  intro q;simp only[neB,aD] at q;simp only[IK,aD];refine⟨?_,ih q.2⟩;have:=q.1;cases h1:Nat.blt d 1000000 with
  |true =>
   rw[h1,bS] at this;rw[bS];split at this
   ·rename_i i j o e;have hg:s.fr.getD d .any= .ptr i j o:=R.getD e;simp only[AS.obj,hg];exact ab3 R this
   ·cases this
  |false =>
   rw[h1,bB] at this;rw[bB];cases h2:Nat.beq d 1000000 with
   |true=>rw[h2,bS] at this; rw[bS]; exact X0 R this
   |false =>
    rw[h2,bB] at this;rw[bB];cases xs with
    |nil=>cases this
    |cons x l =>
     simp only at this ⊢;split at this
     ·rename_i v e; rw[R.ev e]; exact this
     ·cases this
theorem MP{s:AS}(R:Rp m s.fr){o:aJ}(q:JJ s.nx o m=true):jv o s:=by
 unfold JJ at q;simp only[aD,cS,bl] at q;refine⟨fun hf=>?_,ahi R q.2⟩;have h1:ab2 s.nx m o.op=true:=by
  rcases q.1 with h|h
  ·rw[hf] at h; cases h
  ·exact h
 unfold ab2 at h1;split at h1
 ·rename_i k x v e;rw[e];split at h1
  ·rename_i u hu; simp only; rw[R.ev hu]; exact h1
  ·cases h1
 ·rename_i e;rw[e];split at h1
  ·rename_i u hu; simp only; rw[R.ev hu]; exact h1
  ·cases h1
 ·cases h1
 ·rename_i e; rw[e]
 ·rename_i e; rw[e]
 ·rename_i op h2 h3 h4 h5 h6;have:=X0 R h1;split
  ·rename_i e; exact absurd e (h2 _ _ _)
  ·rename_i e; exact absurd e (h3 _ _ _ _ _)
  ·rename_i e; exact absurd e (h4 _ _ _)
  ·rfl
  ·rfl
  ·exact this
def Kz(N pn nx:Nat)(K:Fm->Hz->Prop)(s:AS):Prop:= ∃ m h,s.fr.length=N/\Rp m s.fr/\s.hp=h.au/\s.pin=pn/\s.nx=nx/\K m h
theorem TP{k:Nat}{v:V}(q:GH k [v]=true):v.aI.kd=k:=V.Wy (KF q v (by simp))
theorem aeK{n:Nat}{z:T}{r:Rw}(q:adU n z=some r):r.aQ=List.replicate n z:=by
 unfold adU at q;split at q<;>cases q
 ·simp[Rw.aQ]
 ·simp[Rw.aQ]
 ·simp only[Rw.aQ,List.map_replicate]; rw[agb]
theorem Rw.X3{j:Nat}{v:V}{r w:Rw}(q:r.set j v=some w):w.aQ=r.aQ.set j v.aI:=by
 unfold Rw.set at q;split at q<;>first|(cases q; done)|(cases q; simp[Rw.aQ,V.aI,Dat.aI,List.map_set])
theorem aeL{k:Nat}{y:V}{r:Rw}{x:List V}(q:ahf h k y=some (r,x)):VO h.au k y.aI= .list (r.aQ++V.aQ x):=by
 unfold ahf at q;split at q
 ·rename_i k' f w;obtain⟨g,q⟩:=aU q; cases q;simp only[V.aI,VO,V.aQ,cT];rcases Jd g with rfl|e
  ·cases r.aQ<;>simp
  ·rw[e]
 ·rename_i k' f l;obtain⟨g,q⟩:=aU q; cases q;have:=fA g; subst this;simp only[V.aI,VO,Rw.aQ,f8];cases hx:V.aQ x<;>simp
 ·split at q
  ·rename_i o _ ty ko w z e;obtain⟨g,q⟩:=aU q; cases q;have:=fA g; subst this;simp[V.aI,VO,aP e,OV.ay]
  ·cases q
 ·cases q
theorem Am{r:Rw}{x:List V}:mV r x=(r.aQ++V.aQ x).length:=by
 unfold mV;split
 ·simp[V.aQ,Rw.fD]
 ·simp[dA,Rw.fD]
theorem aeM{r r' w:Rw}{x x' z:List V}(q:ahg r x r' x'=some (w,z)):w.aQ++V.aQ z=(r.aQ++V.aQ x)++(r'.aQ++V.aQ x'):=by
 unfold ahg at q;split at q
 ·split at q
  ·rename_i w' e; cases q; rw[Rw.KE e]; simp[V.aQ]
  ·cases q
 ·cases q; simp[yP,Rw.aQ]
 ·cases q
theorem PE{N pn n nx:Nat}{d:Option Nat}{op:oC}{K:Fm->Hz->Prop}{s:AS}{dr:Bool}(hl:s.fr.length=N)(hd: ∀ i,d=some i->i<N)(R:Rp m s.fr)(hh:s.hp=h.au)(hp:s.pin=pn)(hn:s.nx=nx)(q:aeJ dr d n m h K op) :
  oH P dr n d op (Kz N pn nx K) s:=by
 have hd': ∀ i,d=some i->i<s.fr.length:=fun i e=>by rw[hl]; exact hd i e
 have fin: ∀ {v:V} {h':Hz},K (iO d v m) h'->Kz N pn nx K {(s.put d v.aI) with hp:=h'.au}:=fun {v h'} hk =>
  ⟨_,h',by show(s.put d v.aI).fr.length=N; rw[XZ,hl],R.put (v:=v) hd' rfl,rfl,by show(s.put d v.aI).pin=pn; cases d<;>exact hp,by show(s.put d v.aI).nx=nx; cases d<;>exact hn,hk⟩
 have aeN: ∀ {op:oC} {v:V},bI op=true->Ok s op v->K (iO d v m) h->oH P dr n d op (Kz N pn nx K) s:=fun {op v} hq ho hk=>by
  rw[bH hq];refine⟨ho.1,?_⟩;rw[ho.2];have:=fin hk;rw[<- hh] at this;rw[show({(s.put d v.aI) with hp:=s.hp}:AS)=s.put d v.aI by cases d<;>rfl] at this;exact this
 unfold aeJ at q;split at q
 ·rename_i ty k x;split at q
  ·rename_i v e;split at q;rename_i v' s' hb;cases g:GH k [v']&&v'.kW h&&zD k with
   |false=>rw[g] at q; exact q.elim
   |true =>
    rw[g] at q;simp only[aD] at g;simp only[bS] at q;obtain⟨hs,hk⟩:=kX q;have ev:s.ev x=v'.aI:=by rw[R.ev e]; exact dW hb (hs (.inl rfl))
    simp only[oH];rw[ev,TP g.1.1,hh,V.vY g.1.2,g.2];refine⟨by simp,?_⟩;have:=fin hk;rw[bK] at this;exact this
  ·exact q.elim
 ·rename_i ty k z;cases g:z.kd==k&&z.kW h.au&&z.free&&zD k with
  |false=>rw[g] at q; exact q.elim
  |true =>
   rw[g] at q;simp only[oH];rw[hh,g];refine⟨rfl,?_⟩;have:=fin q;rw[bK] at this;simp only[bu,OV.ay,BD] at this;exact this
 ·rename_i ty k bytes z x y;split at q
  ·rename_i a b e1 e2;cases g:z.kd==k&&z.kW h.au&&z.free&&zD k with
   |false=>rw[g] at q; exact q.elim
   |true =>
    rw[g] at q;simp only[bS] at q;split at q
    ·rename_i r er;obtain⟨c,hk⟩:=q;simp only[oH];rw[R.ev e1,R.ev e2];simp only[V.aI];rw[hh,g];refine⟨rfl,c,?_⟩;have:=fin hk;rw[bK] at this;simp only[bu,OV.ay,V.aQ,cT] at this;have hr:r.aQ=List.replicate a.toNat z:=by
      cases hz:isZero (.int a) with
      |false=>rw[hz] at er; exact aeK er
      |true =>
       rw[hz] at er; cases er;unfold isZero at hz;split at hz
       ·rename_i e; cases e; rfl
       ·cases hz
     rw[hr] at this;exact this
    ·obtain⟨c,hk⟩:=q;simp only[oH];rw[R.ev e1,R.ev e2];simp only[V.aI];rw[hh,g];refine⟨rfl,c,?_⟩;have:=fin hk;rw[bK] at this;simp only[bu,OV.ay] at this;rw[iP,List.map_replicate,BD] at this;exact this
  ·exact q.elim
 ·rename_i k x v;split at q
  ·rename_i i j off v0 e1 e2;split at q;rename_i v' s' hb;cases g:GH k [v']&&v'.kW h with
   |false=>rw[g] at q; exact q.elim
   |true =>
    rw[g] at q;simp only[aD] at g;simp only[bS] at q;have fin2: ∀ {h':Hz},K m h'->Kz N pn nx K {s with hp:=h'.au}:=fun {h'} hk=>⟨m,h',hl,R,rfl,hp,hn,hk⟩
    have ex:s.ev x= .ptr i j off:=R.ev e1;simp only[oH];rw[ex];simp only;split at q
    ·rename_i ty ko w eo;rw[hh,aP eo];simp only[OV.ay];cases hj:Nat.beq j 0 with
     |false=>rw[hj] at q; exact q.elim
     |true =>
      have:=fA hj; subst this;rw[hj] at q;simp only[bS] at q;cases hb2:(Nat.beq off 0&&Nat.beq ko k) with
      |true =>
       rw[hb2] at q;simp only[bS] at q;obtain⟨hs,hk⟩:=kX q;have ev:s.ev v=v'.aI:=by rw[R.ev e2]; exact dW hb (hs (.inl rfl))
       simp only[aD] at hb2;have f1:=fA hb2.1; have f2:=fA hb2.2; subst f1; subst f2;rw[ev,TP g.1,V.vY g.2];refine⟨by simp,by simp,by simp,?_⟩;have:=fin2 hk;rw[bK] at this;simp only[BEq.rfl,eR,bS,eO];exact this
      |false =>
       rw[hb2] at q;simp only[bB] at q;cases hc:(!(Nat.beq ko 0)&&qh (bn ko) off k) with
       |false=>rw[hc] at q; exact q.elim
       |true =>
        rw[hc] at q;simp only[bS] at q;split at q
        ·rename_i w' hw;rw[V.force_eq] at q;obtain⟨hs,hk⟩:=kX q;have ev:s.ev v=v'.aI:=by rw[R.ev e2]; exact dW hb (hs (.inl rfl))
         have hb':(off==0&&ko==k)=false:=by
          rw[cC] at hb2 ⊢;rcases hb2 with hb2|hb2
          ·left; simpa using cG hb2
          ·right; simpa using cG hb2
         simp only[aD] at hc;rw[ev,TP g.1,V.vY g.2];refine⟨by simp,by simp,?_,?_⟩
         ·simp only[hb',cv,aD]; exact⟨aeE hc.1,hc.2⟩
         ·have:=fin2 hk;rw[bK] at this;simp only[hb',bB,eO,List.getD_cons_zero];have ew:w.aI.splice off v'.aI=w'.aI:=by
           unfold setCells at hw;split at hw
           ·rename_i l c f1 f2;cases hw;unfold T.splice;rw[V.Jb f1,V.Jb f2];simp only[V.aI,yP,MK,ML,dA]
           ·cases hw
          rw[ew];exact this
        ·exact q.elim
    ·rename_i ty ko r eo;rw[hh,aP eo];simp only[OV.ay,V.aQ,cT];cases hb2:(Nat.beq off 0&&Nat.beq ko k) with
     |false=>rw[hb2] at q; exact q.elim
     |true =>
      rw[hb2] at q;simp only[bS] at q;split at q
      ·rename_i r' hr;obtain⟨hs,hk0⟩:=kX q;obtain⟨WH,hk⟩:=hk0;have ev:s.ev v=v'.aI:=by rw[R.ev e2]; exact dW hb (hs (.inl rfl))
       simp only[aD] at hb2;have f1:=fA hb2.1; have f2:=fA hb2.2; subst f1; subst f2;rw[Rw.BF] at WH;rw[ev,TP g.1,V.vY g.2];refine⟨by simp,by rw[Rw.fD]; omega,by simp,?_⟩;have:=fin2 hk;rw[bK] at this;simp only[bu,OV.ay,V.aQ,cT,Rw.X3 hr] at this;simp only[BEq.rfl,eR,bS];exact this
      ·obtain⟨hs,hk0⟩:=kX q;obtain⟨WH,hk⟩:=hk0;have ev:s.ev v=v'.aI:=by rw[R.ev e2]; exact dW hb (hs (.inl rfl))
       simp only[aD] at hb2;have f1:=fA hb2.1; have f2:=fA hb2.2; subst f1; subst f2;rw[Rw.BF] at WH;rw[ev,TP g.1,V.vY g.2];refine⟨by simp,by rw[Rw.fD]; omega,by simp,?_⟩;have:=fin2 hk;rw[bK] at this;simp only[bu,OV.ay] at this;rw[iP,List.map_set,<- iP,Rw.abU] at this;simp only[BEq.rfl,eR,bS];exact this
    ·rename_i ty ko y eo;rw[hh,aP eo];simp only[OV.ay];cases hb2:(Nat.beq off 0&&Nat.beq ko k) with
     |false=>rw[hb2] at q; exact q.elim
     |true =>
      rw[hb2] at q;simp only[bS] at q;obtain⟨hs,hk0⟩:=kX q;obtain⟨WH,hk⟩:=hk0;have ev:s.ev v=v'.aI:=by rw[R.ev e2]; exact dW hb (hs (.inl rfl))
      simp only[aD] at hb2;have f1:=fA hb2.1; have f2:=fA hb2.2; subst f1; subst f2;rw[ev,TP g.1,V.vY g.2];refine⟨by simp,by rw[dA]; exact WH,by simp,?_⟩;have:=fin2 hk;rw[bK] at this;simp only[bu,OV.ay] at this;rw[iP,List.map_set,<- iP] at this;simp only[BEq.rfl,eR,bS];exact this
    ·exact q.elim
  ·rename_i x0 v0 _ e1 e2;split at q
   ·rename_i i j off s0 hb0;split at q;rename_i v' s' hb;cases g:GH k [v']&&v'.kW h&&Nat.beq off 0 with
    |false=>rw[g] at q; exact q.elim
    |true =>
     rw[g] at q;simp only[aD] at g;simp only[bS] at q;obtain⟨hs,hk⟩:=kX q;have hs2:=Sd.pO.1 (hs (.inl rfl));have ex:s.ev x= .ptr i j off:=by rw[R.ev e1,dW hb0 hs2.1]; rfl
     have ev:s.ev v=v'.aI:=by rw[R.ev e2]; exact dW hb hs2.2
     have f1:=fA g.2; subst f1;obtain⟨ty,r,r',h',a1,a2,a3,a4,a5⟩:=hk.ok;rw[Rw.BF] at a3;simp only[oH];rw[ex];simp only;rw[hh,aP a1];simp only[OV.ay,V.aQ,cT];rw[ev,TP g.1.1,V.vY g.1.2];refine⟨by simp,by rw[Rw.fD]; omega,by simp,?_⟩;simp only[BEq.rfl,eR,bS];rw[<- Rw.X3 a2];refine⟨m,h',hl,R,?_,hp,hn,a5⟩;rw[a4]; simp only[OV.ay,V.aQ,cT]
   ·exact q.elim
  ·exact q.elim
 ·rename_i k x;split at q
  ·rename_i v0 e1;split at q
   ·rename_i i j off s0 hb0;split at q
    ·rename_i ty ko y eo;cases hb2:(Nat.beq off 0&&Nat.beq ko k) with
     |false=>rw[hb2] at q; exact q.elim
     |true =>
      rw[hb2] at q;simp only[bS] at q;obtain⟨hs,hk⟩:=kX q;have ex:s.ev x= .ptr i j off:=by rw[R.ev e1,dW hb0 (hs (.inl rfl))]; rfl
      simp only[aD] at hb2;have f1:=fA hb2.1; have f2:=fA hb2.2; subst f1; subst f2;obtain⟨v,hv,hk⟩:=hk.ok;rw[V.seq_eq] at hk;refine aeN rfl ?_ hk;have hj:j<y.length:=by
       rcases ee j y.length with h|h
       ·exact h
       ·rw[cq h] at hv; cases hv
      unfold Ok; simp only[qc,qt]; rw[ex];simp only[hh,aP eo,OV.ay];simp only[BEq.rfl,eR,Bool.true_or,bS,dA];exact⟨⟨hj,trivial⟩,zq hv⟩
    ·exact q.elim
   ·rename_i i j off s0 hb0;obtain⟨hs,hk⟩:=kX q;have ex:s.ev x=(V.ptr i j off).aI:=by rw[R.ev e1,dW hb0 (hs (.inl rfl))]; rfl
    obtain⟨ty,ko,r,eo,hk⟩:=hk.ok;split at hk
    ·rename_i v s' hq;obtain⟨hs',hk⟩:=kX hk;rw[V.seq_eq] at hk;exact aeN rfl (WC hh (u:=.ptr i j off) (by simp only[ldZ,eo]; exact hq) (hs' (.inl rfl)) ex) hk
    ·exact hk.elim
   ·exact q.elim
  ·exact q.elim
 ·rename_i k x i;split at q
  ·rename_i v0 w0 e1 e2;split at q
   ·rename_i o s0 n0 s1 hb0 hb1;obtain⟨hs,hk⟩:=kX q;have hs2:=Sd.pO.1 (hs (.inl rfl));have ex:s.ev x=(V.own o).aI:=by rw[R.ev e1,dW hb0 hs2.1]; rfl
    have ei:s.ev i=(V.int n0).aI:=by rw[R.ev e2,dW hb1 hs2.2]
    obtain⟨ty,ko,r,eo,hk⟩:=hk.ok;cases hb2:Nat.beq ko k with
    |false=>rw[hb2] at hk; exact hk.elim
    |true =>
     rw[hb2] at hk;simp only[bS] at hk;obtain⟨hr,hk⟩:=hk;have hok:Ok s (.ia k x i) (.ptr o n0.toNat 0):=abX hh (u:=.own o) (v:=.int n0) (r:=.ptr o n0.toNat 0) (sd:=.yes (r.rng n0)) (by simp only[iaZ,eo,hb2,dO,bS]) hr ex ei;exact aeN (v:=.pin o n0.toNat 0) rfl ⟨hok.1,hok.2⟩ hk
   ·exact q.elim
  ·exact q.elim
 ·rename_i str x;split at q
  ·rename_i v0 e1;split at q
   ·rename_i o s0 hb0;obtain⟨hs,hk⟩:=kX q;have ex:s.ev x=(V.own o).aI:=by rw[R.ev e1,dW hb0 (hs (.inl rfl))]; rfl
    obtain⟨ty,ko,r,eo,hk⟩:=hk.ok;cases hb2:(!str&& !(Nat.beq ko iE)) with
    |false=>rw[hb2] at hk; exact hk.elim
    |true =>
     rw[hb2] at hk;simp only[bS] at hk;rw[V.seq_eq] at hk;exact aeN rfl (XU hh (u:=.own o) (r:=r.lenV) (sd:=.no) (by simp only[aeB,eo,hb2,dO,bS]) ex) hk
   ·exact q.elim
  ·exact q.elim
 ·rename_i ty k bytes x y;split at q
  ·rename_i vx vy e1 e2;split at q
   ·rename_i r' x' es;simp only[oH];rw[R.ev e1,R.ev e2,hh,aeL es];simp only;split at q
    ·rename_i k';obtain⟨c,hk⟩:=q;have e0:(V.row k' true Rw.nil).aI= .sl k' true []:=rfl;rw[e0];unfold mD at c;rw[Am] at c;refine⟨.inr rfl,.inl (.inl rfl),by simpa using c.1,by simpa using c.2,?_⟩;have:=fin hk;rw[bK] at this;exact this
    ·rename_i k' r hnn;cases hb2:Nat.beq k' k with
     |false=>rw[hb2] at q; exact q.elim
     |true =>
      rw[hb2] at q;have:=fA hb2; subst this;simp only[bS] at q;split at q
      ·rename_i w hw;obtain⟨c1,c2,hk⟩:=q.ok;simp only[V.aI];unfold mD at c2;rw[Am] at c1 c2;refine⟨.inl trivial,?_,by rw[Rw.fD]; exact c2.1,by rw[Rw.fD]; exact c2.2,?_⟩
       ·rcases c1 with (c|c)|⟨c,hk2⟩
        ·left; left; exact ai (by rw[Rw.fD]; exact c)
        ·left; right; intro e; rw[e] at c; simp at c
        ·right;refine⟨c,?_⟩;have f1:=fin hk2;rw[<- hh] at f1;rw[show({(s.put d (V.row k' true r).aI) with hp:=s.hp}:AS)=s.put d (.sl k' true r.aQ) by cases d<;>rfl] at f1;exact f1
       ·have:=fin hk;rw[bK] at this;simp only[bu,OV.ay,Rw.KE hw,ax] at this;exact this
      ·exact q.elim
    ·rename_i i;split at q
     ·rename_i ty' ko r xx eo;cases hb2:(Nat.beq ko k&&Nat.beq ty' ty) with
      |false=>rw[hb2] at q; exact q.elim
      |true =>
       rw[hb2] at q;simp only[bS] at q;simp only[aD] at hb2;have f1:=fA hb2.1; have f2:=fA hb2.2; subst f1; subst f2;split at q
       ·rename_i w z hw;obtain⟨c,hk⟩:=q;simp only[V.aI,aP eo,OV.ay];unfold mD at c;rw[Am,Am] at c;refine⟨by simp,c.1,c.2,?_⟩;have:=fin hk;rw[bK,bK] at this;simp only[bu,eN,OV.ay,aeM hw] at this;exact this
       ·exact q.elim
     ·rename_i ty' ko y eo;cases hb2:(Nat.beq ko k&&Nat.beq ty' ty) with
      |false=>rw[hb2] at q; exact q.elim
      |true =>
       rw[hb2] at q;simp only[bS] at q;simp only[aD] at hb2;have f1:=fA hb2.1; have f2:=fA hb2.2; subst f1; subst f2;obtain⟨c,hk⟩:=q;simp only[V.aI,aP eo,OV.ay];unfold mD at c;rw[Am] at c;refine⟨by simp,by rw[dA]; exact c.1,by rw[dA]; exact c.2,?_⟩;have:=fin hk;rw[bK,bK] at this;simp only[bu,eN,OV.ay,yP,Rw.abU] at this;exact this
     ·exact q.elim
    ·rename_i i;obtain⟨r,h',a1,a2,hk⟩:=q.ok;split at hk
     ·rename_i w hw;obtain⟨c,hk⟩:=hk;simp only[V.aI,aP a1,OV.ay,V.aQ,cT];unfold mD at c;rw[Am] at c;refine⟨by simp,by rw[Rw.fD]; exact c.1,by rw[Rw.fD]; exact c.2,?_⟩;have:=fin hk;rw[bK,a2] at this;simp only[bu,OV.ay,Rw.KE hw,ax] at this;exact this
     ·exact hk.elim
    ·exact q.elim
   ·exact q.elim
  ·exact q.elim
 ·rename_i k z x;split at q
  ·rename_i i lo hi e;split at q
   ·rename_i ty ko r eo;cases g:(Nat.beq ko k&&z.kd==k&&z.kW h.au&&z.free) with
    |false=>rw[g] at q; exact q.elim
    |true =>
     rw[g] at q;simp only[bS] at q;obtain⟨⟨c1,c2⟩,hk⟩:=q;simp only[aD] at g;obtain⟨⟨⟨g1,g2⟩,g3⟩,g4⟩:=g;have f1:=fA g1; subst f1;simp only[oH];rw[R.ev e];simp only[V.aI,hh,aP eo,OV.ay];refine⟨by simp[g2,g3,g4],by simp[Rw.fD,c2,V.aQ],?_⟩;have el:(r.take lo).aQ++V.aQ (List.replicate (hi-lo) (Ja z))=List.take lo (r.aQ++V.aQ [])++List.replicate (hi-lo) z++List.drop hi (r.aQ++V.aQ []):=by
      rw[Rw.Hr,iP,List.map_replicate,BD];simp[V.aQ,Rw.fD,c2]
     cases d with
     |none =>
      simp only at hk;refine⟨_,_,hl,R,?_,hp,hn,hk⟩;rw[bK];simp only[bu,OV.ay,el]
     |some dd =>
      simp only at hk;have:=fin hk;rw[bK] at this;simp only[bu,OV.ay,el] at this;exact this
   ·exact q.elim
  ·exact q.elim
 ·rename_i ty k z nn ps;split at q
  ·rename_i vs s' hb;split at q
   ·rename_i l hl;cases g:((z.kd==k)&&z.free&&GH k vs&&Fb h vs&&Nat.ble (nn*bn k) 16777216&&zD k) with
    |false=>rw[g] at q; exact q.elim
    |true =>
     rw[g] at q;simp only[bS] at q;obtain⟨hs,hk⟩:=kX q;have he:=tX R hb (hs (.inl rfl));have he':(ps.map fun p=>s.ev p.2)=V.aQ vs:=by rw[<- he]; simp
     simp only[aD] at g;obtain⟨⟨⟨⟨⟨g1,g2⟩,g3⟩,g4⟩,g5⟩,g6⟩:=g;obtain⟨i1,i2⟩:=XV hl he' g3;have e:V.aQ (List.replicate nn (Ja z))=List.replicate nn z:=by rw[iP,List.map_replicate,BD]
     rw[e] at i2;simp only[oH];rw[i1,i2,he',hh,Jc g4,g1,g2,g5,g6];refine⟨rfl,?_⟩;have:=fin hk;rw[bK] at this;simp only[bu,OV.ay,Rw.aQ,f8] at this;exact this
   ·exact q.elim
  ·exact q.elim
 ·rename_i x;split at q
  ·rename_i k' f r e;obtain⟨q1,q2⟩:=q;simp only[oH];rw[R.ev e];have f1:=fun hz=>fin (q1 hz)
   have f2:=fin q2;rw[<- hh] at f1 f2;refine⟨fun hl=>?_,?_⟩
   ·have:=f1 (by rw[<- Rw.fD]; exact eK List.length hl);rw[show({(s.put d (V.bool true).aI) with hp:=s.hp}:AS)=s.put d (.lit (.bool true)) by cases d<;>rfl] at this;exact this
   ·rw[show({(s.put d (V.bool false).aI) with hp:=s.hp}:AS)=s.put d (.lit (.bool false)) by cases d<;>rfl] at f2;exact f2
  ·rename_i i e;split at q
   ·rename_i ty ko r eo;cases hb:Nat.beq ko iE with
    |true=>rw[hb] at q; exact q.elim
    |false =>
     rw[hb] at q;obtain⟨q1,q2⟩:=q;simp only[oH];rw[R.ev e];have f1:=fun hz=>fin (q1 hz)
     have f2:=fin q2;rw[<- hh] at f1 f2;simp only[V.aI,hh,aP eo,OV.ay];refine⟨fun hl=>?_,?_,cG hb⟩
     ·have:=f1 (by rw[<- Rw.fD]; simpa [V.aQ] using eK List.length hl);rw[show({(s.put d (V.bool true).aI) with hp:=s.hp}:AS)=s.put d (.lit (.bool true)) by cases d<;>rfl] at this;exact this
     ·rw[show({(s.put d (V.bool false).aI) with hp:=s.hp}:AS)=s.put d (.lit (.bool false)) by cases d<;>rfl] at f2;exact f2
   ·exact q.elim
  ·exact q.elim
 ·exact q.elim
end
section
variable {P:Program} {m:Fm} {h:Hz}
theorem Kz.put{N pn nx:Nat}{K:Fm->Hz->Prop}{s:AS}{d:Option Nat}{v:V}{t:T}{h':Hz}(hl:s.fr.length=N)(hd: ∀ i,d=some i->i<N)(R:Rp m s.fr)(hp:s.pin=pn)(hn:s.nx=nx)(ht:t=v.aI)(hk:K (iO d v m) h') :
  Kz N pn nx K {(s.put d t) with hp:=h'.au}:=by
 subst ht;exact⟨_,h',by show(s.put d v.aI).fr.length=N; rw[XZ,hl],R.put (v:=v) (fun i e=>by rw[hl]; exact hd i e) rfl,rfl,by show(s.put d v.aI).pin=pn; cases d<;>exact hp,by show(s.put d v.aI).nx=nx; cases d<;>exact hn,hk⟩
theorem MQ{N pn nx n:Nat}{K:Fm->Hz->Prop}{KW:Nat->Fm->Hz->Prop}{s:AS}{d:Option Nat}{dr:Bool}{g:Option Bool}{f:FuncId}{l:List V}(hl:s.fr.length=N)(hd: ∀ i,d=some i->i<N)(R:Rp m s.fr)(hh:s.hp=h.au)(hp:s.pin=pn)(hn:s.nx=nx)
  (hg:g=none\/g=some true) (q:ah P dr g f l h n (fun v h'=>v.seq fun v=>K (iO d (sG g v) m) h') (fun k v h'=>v.seq fun v=>KW k (iO d v m) h')) (hq:dr=true-> ∀ (v:V) (h':Hz),¬ (v.seq fun v=>KW 0 (iO d v m) h')) :
  ny P dr n d f (V.aQ l) (Kz N pn nx K) s\/(dr=false/\ ∃ k,jE P f (V.aQ l) s.hp n k fun t hp=>Kz N pn (nx+k) (KW k) {(s.put d t) with hp:=hp,nx:=s.nx+k}):=by
 unfold ny;rw[hh];rcases q.ok with q|⟨rfl,rfl,k,q⟩|⟨_,hdr,_,⟨_,_,v,o,_,_,hk⟩,_⟩
 rotate_left
 rotate_left
 ·exact absurd hk (hq hdr _ _)
 rotate_left
 ·refine .inr ⟨rfl,k,q.mono ?_⟩;rintro t hp' ⟨v,h',rfl,rfl,hk⟩;rw[V.seq_eq] at hk;obtain⟨m',h'',a1,a2,a3,a4,_,a6⟩:=Kz.put (K:=KW k) hl hd R hp hn rfl hk;exact⟨m',h'',a1,a2,a3,a4,by show s.nx+k=nx+k; rw[hn],a6⟩
 left;rcases hg with rfl|rfl
 ·refine aO.mono q ?_;rintro t hp' ⟨v,h',e1,e2,e3,hk⟩;rw[V.seq_eq] at hk;subst e2;refine⟨fun e=>⟨by rw[(e3 e).1],(e3 e).2⟩,Kz.put (v:=v) hl hd R hp hn e1 hk⟩
 ·rcases q with ⟨v,c,hf,hk⟩|⟨hdr,c,_⟩
  rotate_left
  ·refine aO.mono (c rfl) ?_;rintro t hp' ⟨v,h',e1,e2,hk⟩;rw[V.seq_eq] at hk;subst e2;exact⟨fun e=>(by rw[hdr] at e; cases e),Kz.put (v:=sG (some true) v) hl hd R hp hn (e1.trans (Je v).symm) hk⟩
  rw[V.seq_eq] at hk;refine aO.mono (c rfl) ?_;rintro t hp' ⟨e1,e2⟩;subst e2;refine⟨fun _=>⟨rfl,by rw[e1]; exact V.iZ v hf⟩,Kz.put (v:=sG (some true) v) hl hd R hp hn (by rw[e1]; exact(Je v).symm) hk⟩
theorem zu{N pn nx n:Nat}{K:Fm->Hz->Prop}{s:AS}{d:Option Nat}{dr:Bool}{g:Option Bool}{f:FuncId}{l:List V}(hl:s.fr.length=N)(hd: ∀ i,d=some i->i<N)(R:Rp m s.fr)(hh:s.hp=h.au)(hp:s.pin=pn)(hn:s.nx=nx)
  (hg:g=none\/g=some true) (q:ah P dr g f l h n (fun v h'=>v.seq fun v=>K (iO d (sG g v) m) h') (fun _ _ _=>False)):ny P dr n d f (V.aQ l) (Kz N pn nx K) s:=by
 rcases MQ (KW:=fun _ _ _=>False) hl hd R hh hp hn hg ⟨q.ok.imp id fun h=>h.imp (fun⟨a,b,k,c⟩=>⟨a,b,k,c.mono fun _ _ ⟨_,_,_,_,h⟩=>h.elim⟩) (fun⟨a,b,d,c⟩=>⟨a,b,d,c.mono fun _ _ ⟨_,_,_,_,h⟩=>h.elim⟩)⟩ (fun _ v h' hk=>by rw[V.seq_eq] at hk; exact hk) with h|⟨_,k,⟨t,hp',hk⟩,_⟩
 ·exact h
 ·obtain⟨_,_,_,_,_,_,_,hk⟩:=hk; exact hk.elim
theorem ah.guard{dr:Bool}{f:FuncId}{args:List V}{n:Nat}{K:V->Hz->Prop}{KW:Nat->V->Hz->Prop}(q:ah P dr (some false) f args h n K KW): ∃ v,K v h:=by
 rcases q.ok with (⟨v,_,_,k⟩|⟨_,_,k⟩)|⟨h1,_⟩|⟨h1,_⟩
 ·exact⟨v,k⟩
 ·exact⟨_,k rfl⟩
 ·cases h1
 ·cases h1
theorem ZG{dr fl:Bool}{a b c:Prop}:FZ dr fl a b c↔(dr=false/\a)\/(dr=true/\bif fl then c else b):=by
 cases dr<;>cases fl<;>simp[FZ]
theorem uY{dr fl:Bool}{C:Bool->Prop}(q:FZ dr fl (C false) (C true) (C false)):C (dr&& !fl):=by
 cases dr<;>cases fl<;>exact q
theorem WI{N pn nx n:Nat}{KK:Nat->Fm->Hz->Prop}{s:AS}{o:aJ}{dr:Bool}(hl:s.fr.length=N)(hd: ∀ i,o.d=some i->i<N)(R:Rp m s.fr)(hh:s.hp=h.au)(hp:s.pin=pn)(hn:s.nx=nx)
  (q:ahh P dr nx n o KK m h):(gv o.g s=some true/\jv o s/\(oH P (o.dr dr) n o.d o.op (Kz N pn nx (KK 0)) s\/opW P dr n o.d o.op (fun s'=> ∃ k,Kz N pn (nx+k) (KK k) s') s))\/(gv o.g s=some false/\Kz N pn nx (KK 0) (s.put o.d T.un)):=by
 unfold ahh at q;split at q
 ·exact q.elim
 ·rename_i g hg;cases hf:JJ nx o m with
  |false=>rw[hf] at q; exact q.elim
  |true =>
   rw[hf] at q;simp only[bS] at q;have hfl:jv o s:=MP R (by rw[hn]; exact hf);have un: ∀ {v:V} {h':Hz},h'=h->KK 0 (iO o.d (sG (some false) v) m) h'->Kz N pn nx (KK 0) (s.put o.d T.un):=fun {v h'} e hk=>by
    subst e;have:=Kz.put (s:=s) (v:=sG (some false) v) (t:=T.un) hl hd R hp hn (WE v).symm hk;rw[<- hh] at this;have e2:({(s.put o.d T.un) with hp:=s.hp}:AS)=s.put o.d T.un:=by
     cases o.d<;>rfl
    rw[e2] at this;exact this
   rcases ZF R hg with ⟨h1,h2⟩|⟨h1,rfl⟩
   ·refine .inl ⟨h1,hfl,?_⟩;split at q
    ·rename_i f xs eo;split at q
     ·rename_i l sd hb;obtain⟨hs,q⟩:=kX q;have ed:o.dr dr=(dr&& !o.fl):=by unfold aJ.dr; rw[eo]
      rw[ed,eo];show ny P (dr&& !o.fl) n o.d f (xs.map s.ev) _ s\/(dr=false/\ ∃ k,jE P f (xs.map s.ev) s.hp n k _);rw[tX R hb (hs h2)];split at q
      ·rw[ZG] at q;rcases q with ⟨e,q⟩|q
       ·rw[e];exact(MQ (g:=none) hl hd R hh hp hn h2 q (fun e=>by cases e)).imp id fun⟨a,k,b⟩=>⟨a,k,b.mono fun _ _ hk=>⟨k,hk⟩⟩
       ·obtain⟨hdt,q⟩:=q;refine .inl (zu (g:=none) hl hd R hh hp hn h2 ?_);rw[hdt];cases hf2:o.fl<;>rw[hf2] at q<;>exact q
      ·rename_i bb _;exact .inl (zu hl hd R hh hp hn h2 (uY (C:=fun dr=>ah P dr (some bb) f l h n (fun v h'=>v.seq fun v=>KK 0 (iO o.d (sG (some bb) v) m) h') (fun _ _ _=>False)) q))
     ·exact q.elim
    ·rename_i x xs eo;split at q
     ·rename_i v0 l sd e1 hb;split at q
      ·rename_i f cap s0 hb0;obtain⟨hs,q⟩:=kX q;have hs2:=Sd.pO.1 (hs h2);have ed:o.dr dr=(dr&& !o.fl):=by unfold aJ.dr; rw[eo]
       rw[ed,eo];cases h81:Nat.blt f 8192 with
       |false =>
        have h40:Nat.blt f 4096=false:=by
         cases hq:Nat.blt f 4096 with
         |false=>rfl
         |true=>rw[cI.mpr (Nat.lt_trans (cI.mp hq) (by decide))] at h81; cases h81
        rw[h40,h81] at q;right;cases dr with
        |true=>exact q.elim
        |false =>
         have q':ZC P f cap l h n (fun v h'=>v.seq fun v=>KK 0 (iO o.d v m) h'):=by
          rcases h2 with rfl|rfl
          ·exact q
          ·obtain⟨qa,_⟩:=q; exact qa rfl
         refine⟨rfl,?_⟩;rw[R.ev e1,dW hb0 hs2.1];simp only[V.aI];rw[tX R hb hs2.2,hh];refine⟨h81,q'.ok.mono ?_⟩;rintro t hp' ⟨v,h',rfl,rfl,hk⟩;rw[V.seq_eq] at hk;exact⟨0,Kz.put hl hd R hp hn rfl hk⟩
       |true =>
       left;simp only[oH];rw[R.ev e1,dW hb0 hs2.1];simp only[V.aI];rw[tX R hb hs2.2,<- yP];cases hbl:Nat.blt f 4096 with
       |true=>rw[hbl] at q; exact zu hl hd R hh hp hn h2 (uY (C:=fun dr=>ah P dr g f (l++cap) h n (fun v h'=>v.seq fun v=>KK 0 (iO o.d (sG g v) m) h') (fun _ _ _=>False)) q)
       |false=>rw[hbl,h81] at q; refine⟨h81,?_⟩; exact zu (l:=.agg cap::l) hl hd R hh hp hn h2 (uY (C:=fun dr=>ah P dr g (f % 4096) (.agg cap::l) h n (fun v h'=>v.seq fun v=>KK 0 (iO o.d (sG g v) m) h') (fun _ _ _=>False)) q)
      ·exact q.elim
     ·exact q.elim
    ·rename_i hn1 hn2;have ed:o.dr dr=dr:=by
      unfold aJ.dr;split
      ·rename_i e; exact absurd e (hn1 _ _)
      ·rename_i e; exact absurd e (hn2 _ _)
      ·rfl
     rw[ed];left;split at q
     ·rename_i v sd hq;obtain⟨hs,hk⟩:=kX q;rw[V.seq_eq] at hk;obtain⟨hqu,hc,ht⟩:=ab1 R hh hq (hs h2);rw[bH hqu];refine⟨hc,?_⟩;have:=Kz.put (s:=s) (v:=sG g v) (t:=qt s o.op) hl hd R hp hn (by rw[ht]; rcases h2 with rfl|rfl; rfl; exact(Je v).symm) hk;rw[<- hh] at this;have e2:({(s.put o.d (qt s o.op)) with hp:=s.hp}:AS)=s.put o.d (qt s o.op):=by cases o.d<;>rfl
      rw[e2] at this;exact this
     ·split at q
      ·exact PE hl hd R hh hp hn q
      ·rename_i b _;rcases h2 with h2|h2
       ·cases h2
       ·cases h2;obtain⟨qa,_⟩:=q;exact PE hl hd R hh hp hn (qa rfl)
   ·refine .inr ⟨h1,?_⟩;split at q
    ·split at q
     ·obtain⟨hs,q⟩:=kX q;obtain⟨v,hk⟩:=ah.guard (uY (C:=fun dr=>ah P dr (some false) _ _ h n (fun v h'=>v.seq fun v=>KK 0 (iO o.d (sG (some false) v) m) h') (fun _ _ _=>False)) q);rw[V.seq_eq] at hk;exact un rfl hk
     ·exact q.elim
    ·split at q
     ·rename_i v0 l sd e1 hb;split at q
      ·rename_i f cap s0 hb0;obtain⟨hs,q⟩:=kX q;cases hbl:Nat.blt f 4096 with
       |true =>
        rw[hbl] at q;obtain⟨v,hk⟩:=ah.guard (uY (C:=fun dr=>ah P dr (some false) f (l++cap) h n (fun v h'=>v.seq fun v=>KK 0 (iO o.d (sG (some false) v) m) h') (fun _ _ _=>False)) q);rw[V.seq_eq] at hk;exact un rfl hk
       |false =>
        rw[hbl] at q;cases h81:Nat.blt f 8192 with
        |false =>
         rw[h81] at q;cases dr with
         |true=>exact q.elim
         |false =>
          obtain⟨_,qb⟩:=q;exact un (v:=.int 0) rfl (qb rfl)
        |true =>
        rw[h81] at q;obtain⟨v,hk⟩:=ah.guard (uY (C:=fun dr=>ah P dr (some false) (f % 4096) (.agg cap::l) h n (fun v h'=>v.seq fun v=>KK 0 (iO o.d (sG (some false) v) m) h') (fun _ _ _=>False)) q);rw[V.seq_eq] at hk;exact un rfl hk
      ·exact q.elim
     ·exact q.elim
    ·split at q
     ·obtain⟨hs,hk⟩:=kX q;rw[V.seq_eq] at hk;exact un rfl hk
     ·obtain⟨_,qb⟩:=q;have e3:V.cnd false (phZ o.op)=sG (some false) (phZ o.op):=by cases o.op<;>rfl
      exact un (v:=phZ o.op) rfl (by rw[<- e3]; exact qb rfl)
theorem ZH{N pn nx n:Nat}{KK:Nat->Fm->Hz->Prop}{s:AS}{o:aJ}{dr:Bool}(hl:s.fr.length=N)(hd: ∀ i,o.d=some i->i<N)(R:Rp m s.fr)(hh:s.hp=h.au)(hp:s.pin=pn)(hn:s.nx=nx)
  (q:opZ P dr nx n o KK m h):(gv o.g s=some true/\jv o s/\(opR P dr n o (Kz N pn nx (KK 0)) s\/opW P dr n o.d o.op (fun s'=> ∃ k,Kz N pn (nx+k) (KK k) s') s))\/(gv o.g s=some false/\Kz N pn nx (KK 0) (s.put o.d T.un)):=by
 unfold opZ at q;cases har:o.ar with
 |true =>
  rw[har] at q;simp only at q;unfold arZ at q;split at q
  ·rename_i f xs eo eg;cases hf:(o.fl&&JJ nx o m) with
   |false=>rw[hf] at q; exact q.elim
   |true =>
    rw[hf] at q;simp only[bS] at q;rw[aD] at hf;have hfl:jv o s:=MP R (by rw[hn]; exact hf.2);refine .inl ⟨by rw[eg]; rfl,hfl,.inl (.inr ⟨har,hf.1,?_⟩)⟩;split at q
    ·rename_i l sd hb;obtain⟨hs,q⟩:=kX q;obtain⟨v,ob,c1,c2,c3,hk⟩:=q.ok;rw[eo];refine⟨v.aI,ob.map OV.ay,c1,?_,?_,?_⟩
     ·intro o' ho';cases ob with
      |none=>cases ho'
      |some ob=>cases ho'; exact c2 _ rfl
     ·intro hp' he _;rw[tX R hb (hs (.inl rfl))];exact c3 hp' (by rw[<- hh]; exact he)
     ·rw[V.seq_eq] at hk;cases ob with
      |none =>
       show Kz N pn nx (KK 0) {(s.put o.d v.aI) with hp:=s.hp};rw[hh];exact Kz.put (v:=v) hl hd R hp hn rfl hk
      |some ob =>
       have e:iL s.hp n (some ob.ay)=Hz.au ((n,some ob)::h):=by rw[bK,hh]; rfl
       show Kz N pn nx (KK 0) {(s.put o.d v.aI) with hp:=iL s.hp n (some ob.ay)};rw[e];exact Kz.put (v:=v) hl hd R hp hn rfl hk
    ·exact q.elim
  ·exact q.elim
 |false =>
 rw[har] at q;simp only at q;cases had:o.ad with
 |false =>
  rw[had] at q;rcases WI hl hd R hh hp hn q with ⟨h1,h2,h3⟩|h1
  ·exact .inl ⟨h1,h2,h3.imp (fun h=>.inl ⟨har,jG (fun s' _ _ h=>⟨fun e=>(by rw[had] at e; cases e),h⟩) h⟩) id⟩
  ·exact .inr h1
 |true =>
  rw[had] at q;simp only at q;unfold adZ at q;split at q
  ·rename_i f xs eo eg;cases hf:(o.fl&&JJ nx o m) with
   |false=>rw[hf] at q; exact q.elim
   |true =>
    rw[hf] at q;simp only[bS] at q;rw[aD] at hf;have hfl:jv o s:=MP R (by rw[hn]; exact hf.2);refine .inl ⟨by rw[eg]; rfl,hfl,.inl (.inl ⟨har,?_⟩)⟩;split at q
    ·rename_i l sd hb;obtain⟨hs,q⟩:=kX q;have ed:o.dr dr=false:=by unfold aJ.dr; rw[eo,hf.1]; cases dr<;>rfl
     rw[ed,eo];show aO P f (xs.map s.ev) s.hp n _;rw[tX R hb (hs (.inl rfl)),hh];have hx: ∀ {h':Hz} {s':AS},s'.hp=h'.au->(h'=h\/ ∃ o,h'=(n,some o)::h/\h.get n=none)-> ∀ i ob,s.hp i=some ob->s'.hp i=some ob:=by
      intro h' s' e1 e2 i ob hi;rw[e1];rw[hh] at hi;rcases e2 with rfl|⟨o',rfl,hn0⟩
      ·exact hi
      ·rw[bK];have hne:i≠n:=by
        rintro rfl;simp only[Hz.au,hn0] at hi; cases hi
       simp only[upd,av hne]; exact hi
     rcases q.ok with q|⟨_,e,_⟩|⟨_,_,hn0,q⟩
     ·refine aO.mono q ?_;rintro t hp' ⟨v,h',e1,e2,e3,hk⟩;rw[V.seq_eq] at hk;subst e2;exact⟨(fun e=>by cases e),fun _=>hx rfl (.inl (e3 rfl).1),Kz.put (v:=v) hl hd R hp hn e1 hk⟩
     ·cases e
     ·refine aO.mono q ?_;rintro t hp' ⟨v,o',e1,e2,hk⟩;rw[V.seq_eq] at hk;subst e2;exact⟨(fun e=>by cases e),fun _=>hx rfl (.inr ⟨o',rfl,hn0⟩),Kz.put (v:=v) hl hd R hp hn e1 hk⟩
    ·exact q.elim
  ·exact q.elim
theorem TQ{N pn ml:Nat}{K:Fm->Hz->Nat->Prop}{dr:Bool}: ∀ {nx:Nat} {ops:List aJ} {i:Nat} {m:Fm} {h:Hz} {s:AS},QM N ops=true->s.fr.length=N->Rp m s.fr->s.hp=h.au->s.pin=pn->s.nx=nx ->
  TN P dr ml nx K ops i m h->uH P dr ml (fun s=> ∃ m h,s.fr.length=N/\Rp m s.fr/\s.hp=h.au/\s.pin=pn/\K m h s.nx) ops i s:=by
 intro nx ops;induction ops generalizing nx with
 |nil =>
  intro i m h s _ hl R hh hp hn q;exact⟨m,h,hl,R,hh,hp,by show K m h (s.nx+ml); rw[hn]; exact q⟩
 |cons o r ih =>
  intro i m h s hd hl R hh hp hn q;simp only[QM,aD] at hd;have hd1: ∀ j,o.d=some j->j<N:=fun j e=>by
   have:=hd.1;rw[e] at this;simpa using this
  simp only[uH];rw[FN];have next: ∀ s',s'.nx=s.nx->s'.pin=s.pin->Kz N pn nx (TN P dr ml nx K r (i+1)) s'->uH P dr ml (fun s=> ∃ m h,s.fr.length=N/\Rp m s.fr/\s.hp=h.au/\s.pin=pn/\K m h s.nx) r (i+1) s':=by
   rintro s' _ _ ⟨m',h',a1,a2,a3,a4,a5,a6⟩;exact ih hd.2 a1 a2 a3 a4 a5 a6
  have ait: ∀ s',(∃ k,Kz N pn (nx+k) (TN P dr ml (nx+k) K r (i+1)) s')->uH P dr ml (fun s=> ∃ m h,s.fr.length=N/\Rp m s.fr/\s.hp=h.au/\s.pin=pn/\K m h s.nx) r (i+1) s':=by
   rintro s' ⟨k,m',h',a1,a2,a3,a4,a5,a6⟩;exact ih hd.2 a1 a2 a3 a4 a5 a6
  rcases ZH hl hd1 R hh hp hn q with ⟨h1,h2,h3⟩|⟨h1,h2⟩
  ·refine .inl ⟨h1,h2,?_⟩;rw[hn];exact h3.imp (fun h=>h.imp (fun h=>⟨h.1,jG (fun s' a b c=>⟨c.1,next s' a b c.2⟩) h.2⟩) fun h=>⟨h.1,h.2.1,L6 (fun s' a b c=>next s' a b c) h.2.2⟩) (TA ait)
  ·exact .inr ⟨h1,next _ (fF _ _ _) (iq _ _ _) h2⟩
theorem jO{N pn:Nat}: ∀ {c:bC} {Q:Qz} {m:Fm} {h:Hz} {s:AS},lq N c=true->s.fr.length=N->Rp m s.fr->s.hp=h.au->s.pin=pn->az P N pn c Q m h s.nx->aw P c (Lift N pn Q) s:=by
 intro c;induction c with
 |skip=>intro Q m h s _ hl R hh hp q; exact⟨m,h,hl,R,hh,hp,q⟩
 |reg dr ops =>
  intro Q m h s hd hl R hh hp q;exact TQ hd hl R hh hp rfl q
 |seq a b ia ib =>
  intro Q m h s hd hl R hh hp q;simp only[lq,aD] at hd;simp only[aw];refine jk ?_ (ia hd.1 hl R hh hp q);rintro e s' ⟨m',h',b1,b2,b3,b4,b5⟩;cases e with
  |normal=>exact ib hd.2 b1 b2 b3 b4 b5
  |exit j=>exact⟨m',h',b1,b2,b3,b4,b5⟩
  |ret=>exact⟨m',h',b1,b2,b3,b4,b5⟩
 |cond c a b ia ib =>
  intro Q m h s hd hl R hh hp q;simp only[lq,aD] at hd;simp only[az] at q;simp only[aw];split at q
  ·rename_i t e;rw[R.ev e];obtain⟨q1,q2⟩:=q;exact⟨fun e=>ia hd.1 hl R hh hp (q1 e),fun e=>ib hd.2 hl R hh hp (q2 e)⟩
  ·exact q.elim
 |blk id b ib =>
  intro Q m h s hd hl R hh hp q;simp only[aw];refine jk ?_ (ib hd hl R hh hp q);rintro e s' ⟨m',h',b1,b2,b3,b4,b5⟩;cases e with
  |normal=>exact⟨m',h',b1,b2,b3,b4,b5⟩
  |ret=>exact⟨m',h',b1,b2,b3,b4,b5⟩
  |exit j =>
   simp only at b5 ⊢;by_cases e:j=id
   ·subst e; simp at b5 ⊢; exact⟨m',h',b1,b2,b3,b4,b5⟩
   ·have e1:Nat.beq j id=false:=by
     cases hb:Nat.beq j id with
     |false=>rfl
     |true=>exact absurd (fA hb) e
    have e2:(j==id)=false:=by simpa using e
    rw[e1] at b5; rw[e2];exact⟨m',h',b1,b2,b3,b4,b5⟩
 |exit i=>intro Q m h s _ hl R hh hp q; exact⟨m,h,hl,R,hh,hp,q⟩
 |ret=>intro Q m h s _ hl R hh hp q; exact⟨m,h,hl,R,hh,hp,q⟩
 |loop b ib =>
  intro Q m h s _ hl R hh hp q;have:=q.ok s.fr hl R;rw[<- hh,<- hp] at this;simp only[aw];rw[hp] at this;have e:(⟨s.fr,s.hp,s.nx,pn⟩:AS)=s:=by rw[<- hp]
  rw[e] at this;exact this
end
end Go.Ab
