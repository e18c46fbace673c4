/-
 The typed layer, part 1: typed values, rows, objects. Definitions alone.
-/
import Derived.Test.YtbdbmfccbpfeoabGreatDoorLd
import Derived.Test.YtbdbmfccbpfeoabGreatDoorLc
namespace Go.Ab
inductive Dat where
 |lin (x:Lin)
 |Vo (x:BP)
 |rule (x:Rule)
 |fQ (x:aI)
 |cnt (x:Cnt)
 |prop (x:Prop')
 |clause (x:Clause)
 |elem (x:Elem)
@[reducible] def agn(l:List Bool):T:=.sl 0 false (l.map T.bool)
@[reducible] def agp(l:List (List Int)):T:=.sl 0 false (l.map Go.Ab.ints)
inductive Rw where
 |ints (l:List Int)
 |bools (l:List Bool)
 |strs (l:List Str)
 |bI (l:List (List Int))
 |oz (l:List (List Bool))
 |oC (l:List (List (List Int)))
 |Dl (l:List Lin)
 |sF (l:List BP)
 |rules (l:List Rule)
 |cnts (l:List Cnt)
 |clauses (l:List Clause)
 |elems (l:List Elem)
 |nil
inductive V where
 |int (n:Int)
 |bool (b:Bool)
 |u8 (n:Int)
 |str (s:Str)
 |dat (d:Dat)
 |agg (l:List V)
 |row (k:Nat) (full:Bool) (r:Rw)
 |Fp (k:Nat) (full:Bool) (l:List V)
 |ref (k:Nat) (v:V)
 |own (i:Nat)
 |inn (i:Nat)
 |pin (i j off:Nat)
 |ptr (i j off:Nat)
 |pU (i lo hi:Nat)
 |fn (f:FuncId) (cap:List V)
 |dQ (l:List V)
 |cnd (b:Bool) (v:V)
 |raw (t:T)
def Dat.aH:Dat->T
 | .lin x=>Wq x
 | .Vo x=>TJ x
 | .rule x=>ML x
 | .fQ x=>abJ x
 | .cnt x=>Ws x
 | .prop x=>afy x
 | .clause x=>Ky x
 | .elem x=>gB x
def Dat.kd:Dat->Nat
 | .lin _=>5
 | .Vo _=>7
 | .rule _=>19
 | .fQ _=>11
 | .cnt _=>3
 | .prop _=>7
 | .clause _=>4
 | .elem _=>3
def Rw.aU:Rw->List T
 | .ints l=>l.map T.int
 | .bools l=>l.map T.bool
 | .strs l=>l.map eS
 | .bI l=>l.map Go.Ab.ints
 | .oz l=>l.map agn
 | .oC l=>l.map agp
 | .Dl l=>l.map Wq
 | .sF l=>l.map TJ
 | .rules l=>l.map ML
 | .cnts l=>l.map Ws
 | .clauses l=>l.map Ky
 | .elems l=>l.map gB
 | .nil=>[]
mutual
def V.aH:V->T
 | .int n=>.int n
 | .bool b=>.bool b
 | .u8 n=>.lit (.int .u8 n)
 | .str s=>eS s
 | .dat d=>d.aH
 | .agg l=>.agg (V.aU l)
 | .row k f r=>.sl k f r.aU
 | .Fp k f l=>.sl k f (V.aU l)
 | .ref k v=>.ref k v.aH
 | .own i=>.own i
 | .inn i=>.own i
 | .pin i j off=>.ptr i j off
 | .ptr i j off=>.ptr i j off
 | .pU i lo hi=>.pU i lo hi
 | .fn f cap=>.fn f (V.aU cap)
 | .dQ l=>.dQ (V.aU l)
 | .cnd b v=>bif b then v.aH else T.un
 | .raw t=>t
def V.aU:List V->List T
 |[]=>[]
 |v::r=>v.aH::V.aU r
end
def Dat.cells:Dat->List V
 | .lin x=>[.int x.c,.int x.n,.int x.t,.int x.f]
 | .Vo x=>[.int x.message,.int x.GZ,.int x.bound.c,.int x.bound.n,.int x.bound.t,.int x.bound.f]
 | .rule x=>[.str x.name,.int x.kind,.int x.fr,.int x.to,.int x.jo,.int x.Ap,.row 0 false (.ints x.response),.row 7 false (.sF x.guards),.row 0 false (.ints x.ex),.row 0 false (.ints x.all),.int x.read,.int x.write,.row 0 false (.ints x.send),.int x.pos,.row 0 false (.ints x.left),.row 0 false (.ints x.right),.row 0 false (.ints x.parent),.int x.direction]
 | .fQ x=>[.str x.name,.int x.topology,.row 0 false (.strs x.states),.row 0 false (.strs x.messages),.row 0 false (.strs x.values),.int x.fault,.row 5 false (.Dl x.cu),.row 0 false (.ints x.initial),.row 0 false (.ints x.leader),.row 19 false (.rules x.rules)]
 | .cnt x=>[.row 0 false (.ints x.states),.int x.least]
 | .prop x=>[.str x.name,.int x.kind,.row 0 false (.ints x.start),.row 3 false (.cnts x.bad),.row 0 false (.ints x.adjacent),.row 0 false (.ints x.goal)]
 | .clause x=>[.row 0 false (.bI x.each),.row 0 false (.ints x.values),.row 0 false (.ints x.some)]
 | .elem x=>[.int x.value,.row 0 false (.ints x.counts)]
theorem Dat.Ja(d:Dat):d.aH= .agg (V.aU d.cells):=by cases d<;>rfl
theorem Dat.agq(d:Dat):d.aH.kd=d.kd:=by cases d<;>rfl
def Rw.len:Rw->Nat
 | .ints l=>l.length
 | .bools l=>l.length
 | .strs l=>l.length
 | .bI l=>l.length
 | .oz l=>l.length
 | .oC l=>l.length
 | .Dl l=>l.length
 | .sF l=>l.length
 | .rules l=>l.length
 | .cnts l=>l.length
 | .clauses l=>l.length
 | .elems l=>l.length
 | .nil=>0
def Rw.lenV:Rw->V
 | .ints l=>.int l.length
 | .bools l=>.int l.length
 | .strs l=>.int l.length
 | .bI l=>.int l.length
 | .oz l=>.int l.length
 | .oC l=>.int l.length
 | .Dl l=>.int l.length
 | .sF l=>.int l.length
 | .rules l=>.int l.length
 | .cnts l=>.int l.length
 | .clauses l=>.int l.length
 | .elems l=>.int l.length
 | .nil=>.int 0
def Rw.rng(n:Int):Rw->Prop
 | .ints l=>0<=n/\n<l.length
 | .bools l=>0<=n/\n<l.length
 | .strs l=>0<=n/\n<l.length
 | .bI l=>0<=n/\n<l.length
 | .oz l=>0<=n/\n<l.length
 | .oC l=>0<=n/\n<l.length
 | .Dl l=>0<=n/\n<l.length
 | .sF l=>0<=n/\n<l.length
 | .rules l=>0<=n/\n<l.length
 | .cnts l=>0<=n/\n<l.length
 | .clauses l=>0<=n/\n<l.length
 | .elems l=>0<=n/\n<l.length
 | .nil=>False
def Rw.qM(n:Int):Rw->Prop
 | .ints l=>0<=n/\n<=l.length
 | .bools l=>0<=n/\n<=l.length
 | .strs l=>0<=n/\n<=l.length
 | .bI l=>0<=n/\n<=l.length
 | .oz l=>0<=n/\n<=l.length
 | .oC l=>0<=n/\n<=l.length
 | .Dl l=>0<=n/\n<=l.length
 | .sF l=>0<=n/\n<=l.length
 | .rules l=>0<=n/\n<=l.length
 | .cnts l=>0<=n/\n<=l.length
 | .clauses l=>0<=n/\n<=l.length
 | .elems l=>0<=n/\n<=l.length
 | .nil=>n=0
def Rw.get(i:Nat):Rw->V
 | .ints l=>.int (l.getD i 0)
 | .bools l=>.bool (l.getD i false)
 | .strs l=>.str (l.getD i [])
 | .bI l=>.row 0 false (.ints (l.getD i []))
 | .oz l=>.row 0 false (.bools (l.getD i []))
 | .oC l=>.row 0 false (.bI (l.getD i []))
 | .Dl l=>.dat (.lin (l.getD i default))
 | .sF l=>.dat (.Vo (l.getD i default))
 | .rules l=>.dat (.rule (l.getD i default))
 | .cnts l=>.dat (.cnt (l.getD i default))
 | .clauses l=>.dat (.clause (l.getD i default))
 | .elems l=>.dat (.elem (l.getD i default))
 | .nil=>.raw .any
def Rw.take(i:Nat):Rw->Rw
 | .ints l=>.ints (l.take i)
 | .bools l=>.bools (l.take i)
 | .strs l=>.strs (l.take i)
 | .bI l=>.bI (l.take i)
 | .oz l=>.oz (l.take i)
 | .oC l=>.oC (l.take i)
 | .Dl l=>.Dl (l.take i)
 | .sF l=>.sF (l.take i)
 | .rules l=>.rules (l.take i)
 | .cnts l=>.cnts (l.take i)
 | .clauses l=>.clauses (l.take i)
 | .elems l=>.elems (l.take i)
 | .nil=>.nil
def Rw.drop(i:Nat):Rw->Rw
 | .ints l=>.ints (l.drop i)
 | .bools l=>.bools (l.drop i)
 | .strs l=>.strs (l.drop i)
 | .bI l=>.bI (l.drop i)
 | .oz l=>.oz (l.drop i)
 | .oC l=>.oC (l.drop i)
 | .Dl l=>.Dl (l.drop i)
 | .sF l=>.sF (l.drop i)
 | .rules l=>.rules (l.drop i)
 | .cnts l=>.cnts (l.drop i)
 | .clauses l=>.clauses (l.drop i)
 | .elems l=>.elems (l.drop i)
 | .nil=>.nil
def Rw.app:Rw->Rw->Option Rw
 |r,.nil=>some r
 | .nil,r=>some r
 | .ints a,.ints b=>some (.ints (a++b))
 | .bools a,.bools b=>some (.bools (a++b))
 | .strs a,.strs b=>some (.strs (a++b))
 | .bI a,.bI b=>some (.bI (a++b))
 | .oz a,.oz b=>some (.oz (a++b))
 | .oC a,.oC b=>some (.oC (a++b))
 | .Dl a,.Dl b=>some (.Dl (a++b))
 | .sF a,.sF b=>some (.sF (a++b))
 | .rules a,.rules b=>some (.rules (a++b))
 | .cnts a,.cnts b=>some (.cnts (a++b))
 | .clauses a,.clauses b=>some (.clauses (a++b))
 | .elems a,.elems b=>some (.elems (a++b))
 |_,_=>none
def Rw.kd:Rw->Nat
 | .ints _=>0
 | .bools _=>0
 | .strs _=>0
 | .bI _=>0
 | .oz _=>0
 | .oC _=>0
 | .Dl _=>5
 | .sF _=>7
 | .rules _=>19
 | .cnts _=>3
 | .clauses _=>4
 | .elems _=>3
 | .nil=>0
def V.one:V->Option Rw
 | .int n=>some (.ints [n])
 | .bool b=>some (.bools [b])
 | .str s=>some (.strs [s])
 | .row 0 false (.ints l)=>some (.bI [l])
 | .row 0 false (.bools l)=>some (.oz [l])
 | .row 0 false (.bI l)=>some (.oC [l])
 | .dat (.lin x)=>some (.Dl [x])
 | .dat (.Vo x)=>some (.sF [x])
 | .dat (.rule x)=>some (.rules [x])
 | .dat (.cnt x)=>some (.cnts [x])
 | .dat (.clause x)=>some (.clauses [x])
 | .dat (.elem x)=>some (.elems [x])
 | .agg [.int a,.row 0 false (.ints c)]=>some (.elems [⟨a,c⟩])
 | .agg [.row 0 false (.ints c),.int a]=>some (.cnts [⟨c,a⟩])
 | .agg [.row 0 false (.bI e),.row 0 false (.ints v),.row 0 false (.ints s)]=>some (.clauses [⟨e,v,s⟩])
 |_=>none
def Rw.ofL:List V->Option Rw
 |[]=>some .nil
 |v::r=>match v.one,Rw.ofL r with
  |some a,some b=>a.app b
  |_,_=>none
def Rw.vs:Rw->List V
 | .ints l=>l.map .int
 | .bools l=>l.map .bool
 | .strs l=>l.map .str
 | .bI l=>l.map fun c=>.row 0 false (.ints c)
 | .oz l=>l.map fun c=>.row 0 false (.bools c)
 | .oC l=>l.map fun c=>.row 0 false (.bI c)
 | .Dl l=>l.map fun c=>.dat (.lin c)
 | .sF l=>l.map fun c=>.dat (.Vo c)
 | .rules l=>l.map fun c=>.dat (.rule c)
 | .cnts l=>l.map fun c=>.dat (.cnt c)
 | .clauses l=>l.map fun c=>.dat (.clause c)
 | .elems l=>l.map fun c=>.dat (.elem c)
 | .nil=>[]
inductive OV where
 |row (ty k:Nat) (r:Rw) (x:List V)
 |box (ty k:Nat) (v:V)
 |map (ty:Nat) (es:List (Int×List Bool)) (x:List (Int×V))
 |gen (ty k:Nat) (x:List V)
def aec(e:Int×List Bool):T:=.dQ [.int e.1,.sl 0 false (e.2.map T.bool)]
def aed(e:Int×V):T:=.dQ [.int e.1,e.2.aH]
def OV.au:OV->Ob
 | .row ty k r x=>⟨ty,k,r.aU++V.aU x⟩
 | .box ty k v=>⟨ty,k,[v.aH]⟩
 | .map ty es x=>⟨ty,iM,es.map aec++x.map aed⟩
 | .gen ty k x=>⟨ty,k,V.aU x⟩
abbrev Fm:=List (Nat×V)
def Fm.get(i:Nat):Fm->Option V
 |[]=>none
 |(j,v)::r=>bif Nat.beq j i then some v else Fm.get i r
abbrev Hz:=List (Nat×Option OV)
def Hz.get(i:Nat):Hz->Option OV
 |[]=>none
 |(j,o)::r=>bif Nat.beq j i then o else Hz.get i r
def Hz.ay(h:Hz):Hp:=fun i=>(h.get i).map OV.au
mutual
def EL:T->V
 | .lit (.int .i64 n)=>.int n
 | .lit (.int .u8 n)=>.u8 n
 | .lit (.bool b)=>.bool b
 | .lit (.string b)=>.str b.data.toList
 | .sl k f []=>.row k f .nil
 | .agg l=>.agg (ofL l)
 | .fn f l=>.fn f (ofL l)
 |t=>.raw t
def ofL:List T->List V
 |[]=>[]
 |t::r=>EL t::ofL r
end
def V.kd:V->Option Nat
 | .dat d=>some d.kd
 | .agg l=>some (l.length+1)
 | .cnd _ _=>none
 | .raw _=>none
 |_=>some 0
def V.cells:V->Option (List V)
 | .dat d=>some d.cells
 | .agg l=>some l
 | .cnd _ _=>none
 | .raw _=>none
 |v=>some [v]
def V.lC(h:Hz):V->Bool
 | .own i=>(h.get i).isSome
 | .ptr i _ _=>(h.get i).isSome
 | .pU i _ _=>(h.get i).isSome
 | .cnd _ _=>false
 | .raw _=>false
 | .dQ _=>false
 | .inn _=>false
 | .pin _ _ _=>false
 |_=>true
def V.part(off:Nat):Nat->V->Option V
 |0,.dat d=>d.cells[off]?
 |0,.agg l=>l[off]?
 |k+1,.dat (.Vo x)=>bif (Nat.beq off 2)&&(Nat.beq k 4) then some (.dat (.lin x.bound)) else none
 |k+1,.agg l=>some (.agg ((l.drop off).take k))
 |_,_=>none
inductive VC(p k:Prop):Prop where
 |mk:p->k->VC p k
inductive Fork(b:Bool)(x y:Prop):Prop where
 |mk:(b=true->x)->(b=false->y)->Fork b x y
inductive Sd where
 |no
 |yes (p:Prop)
def Sd.holds:Sd->Prop
 | .no=>True
 | .yes p=>p
def Sd.and:Sd->Sd->Sd
 | .no,b=>b
 |a,.no=>a
 | .yes p,.yes q=>.yes (p/\q)
def Sd.imp(t:Bool)(b:Bool):Sd->Sd
 | .no=>.no
 | .yes p=>.yes (t=b->p)
def Sd.vc(g:Option Bool)(k:Prop):Sd->Prop
 | .no=>k
 | .yes p=>match g with
  |none=>VC p k
  |some b=>VC (b=true->p) k
def V.bare:V->V×Sd
 | .cnd c v=>(v,.yes (c=true))
 |v=>(v,.no)
mutual
def V.free:V->Bool
 | .own _=>false
 | .ptr _ _ _=>false
 | .pU _ _ _=>false
 | .inn _=>false
 | .pin _ _ _=>false
 | .cnd _ _=>false
 | .raw t=>t.free
 | .agg l=>V.bW l
 | .fn _ l=>V.bW l
 | .dQ l=>V.bW l
 |_=>true
def V.bW:List V->Bool
 |[]=>true
 |v::r=>V.free v&&V.bW r
end
def Dn(m:Fm):X->Option V
 | .t n=>m.get n
 | .c t=>some (EL t)
def evL(m:Fm):List X->Option (List V)
 |[]=>some []
 |x::r=>match Dn m x,evL m r with
  |some v,some l=>some (v::l)
  |_,_=>none
abbrev Fq:=Option (V×Sd)
def Wv(m:Fm)(x:X)(f:V->Fq):Fq :=
 match Dn m x with
 |some v=>match v.bare with
  |(u,s)=>match f u with
   |some (r,s')=>some (r,s.and s')
   |none=>none
 |none=>none
def qz2(m:Fm)(x y:X)(f:V->V->Fq):Fq:=Wv m x fun u=>Wv m y fun v=>f u v
def okI(n:Int):Prop:= -9223372036854775808<=n/\n<9223372036854775808
def Vx(a b:Int):Int:=a.fdiv (2 ^ min b.toNat 64)
theorem CB(a:Int):Vx a 1=a / 2:=by
 show Int.fdiv a 2=_;rw[Int.fdiv_eq_ediv_of_nonneg _ (by decide)]
def agr(op:BinOp):V->V->Fq
 | .int a,.int b=>match op with
  | .add=>some (.int (a+b),.yes (okI (a+b)))
  | .sub=>some (.int (a-b),.yes (okI (a-b)))
  | .mul=>some (.int (a*b),.yes (okI (a*b)))
  | .eql=>some (.bool (a==b),.no)
  | .neq=>some (.bool (a !=b),.no)
  | .lss=>some (.bool (decide (a<b)),.no)
  | .leq=>some (.bool (decide (a<=b)),.no)
  | .gtr=>some (.bool (decide (b<a)),.no)
  | .geq=>some (.bool (decide (b<=a)),.no)
  |_=>none
 | .u8 a,.u8 b=>match op with
  | .eql=>some (.bool (a==b),.no)
  | .neq=>some (.bool (a !=b),.no)
  | .lss=>some (.bool (decide (a<b)),.no)
  | .leq=>some (.bool (decide (a<=b)),.no)
  | .gtr=>some (.bool (decide (b<a)),.no)
  | .geq=>some (.bool (decide (b<=a)),.no)
  |_=>none
 | .str a,.str b=>match op with
  | .eql=>some (.bool (a==b),.no)
  | .neq=>some (.bool (!(a==b)),.no)
  | .add=>some (.str (a++b),.yes (a.length+b.length<=9223372036854775807))
  |_=>none
 | .raw (.lit (.int .u64 a)),.raw (.lit (.int .u64 b))=>match op with
  | .shr=>some (.raw (.lit (.int .u64 (Vx a b))),.yes (0<=b))
  | .and=>some (.raw (.lit (.int .u64 (afT .u64 a b))),.no)
  | .rem=>some (.raw (.lit (.int .u64 (a.tmod b))),.yes (b≠0))
  | .eql=>some (.bool (a==b),.no)
  | .geq=>some (.bool (decide (b<=a)),.no)
  |_=>none
 |_,_=>none
def Ed:X->Bool
 | .c (.lit (.bool true))=>true
 |_=>false
def zU:X->Bool
 | .c (.lit (.bool false))=>true
 |_=>false
def afz(t:Bool)(xa xb:X):V->V->Option V
 | .bool x,.bool y=>bif Ed xa then some (.bool (t||y)) else bif zU xb then some (.bool (t&&x)) else some (.bool (bif t then x else y))
 | .int x,.int y=>some (.int (bif t then x else y))
 | .str x,.str y=>some (.str (bif t then x else y))
 |_,_=>none
def abL(t:Bool)(xa xb:X)(a b:V×Sd):Fq :=
 match a,b with
 |(a,sa),(b,sb)=>match afz t xa xb a b with
  |some v=>some (v,(sa.imp t true).and (sb.imp t false))
  |none=>none
def dX{α:Type}(b:Bool)(x:Option α):Option α:=bif b then x else none
def V.Wx(k:Nat):Option V->Fq
 |some u=>some (.ref k u,.no)
 |none=>none
def V.KC:Option V->Fq
 |some u=>some (u,.no)
 |none=>none
def faZ(h:Hz)(off k:Nat):V->Fq
 | .ref kt v=>dX (!(Nat.beq kt 0)&&qH (bn kt) off k) (V.Wx k (v.part off k))
 | .ptr i j o=>dX (h.get i).isSome (some (.ptr i j (o+off),.no))
 |_=>none
def fvZ(off k:Nat)(v:V):Fq :=
 match v.kd with
 |some kt=>dX (!(Nat.beq kt 0)&&qH (bn kt) off k) (V.KC (v.part off k))
 |none=>none
def ags:List V->Nat->Option V
 |[],_=>none
 |v::_,0=>some v
 |_::r,n+1=>ags r n
def iaZ(h:Hz)(k:Nat):V->V->Fq
 | .Fp k' _ l,.int n=>match ags l n.toNat with
  |some v=>dX (Nat.beq k' k) (some (.ref k v,.yes (0<=n)))
  |none=>none
 | .row k' _ r,.int n=>dX (Nat.beq k' k) (some (.ref k (r.get n.toNat),.yes (r.rng n)))
 | .own o,.int n=>match h.get o with
  |some (.row _ k' r [])=>dX (Nat.beq k' k) (some (.ptr o n.toNat 0,.yes (r.rng n)))
  |some (.gen _ k' x)=>dX (Nat.beq k' k) (some (.ptr o n.toNat 0,.yes (0<=n/\n<x.length)))
  |_=>none
 | .pU o lo hi,.int n=>match h.get o with
  |some (.row _ k' _ [])=>dX (Nat.beq k' k) (some (.ptr o (lo+n.toNat) 0,.yes (0<=n/\n<(hi-lo:Nat))))
  |_=>none
 |_,_=>none
def chZ:V->V->Fq
 | .str s,.int n=>some (.u8 (s.getD n.toNat 0).toNat,.yes (0<=n/\n<s.length))
 | .str s,.u8 n=>some (.u8 (s.getD n.toNat 0).toNat,.yes (0<=n/\n<s.length))
 |_,_=>none
def ldB(k j off ko:Nat)(v:V):Fq :=
 bif Nat.beq j 0 then(bif Nat.beq off 0&&Nat.beq ko k then some (v,.no) else dX (!(Nat.beq ko 0)&&qH (bn ko) off k) (V.KC (v.part off k))) else none
def ldR(k j off ko:Nat)(r:Rw):Fq :=
 bif Nat.beq off 0&&Nat.beq ko k then some (r.get j,.yes (r.rng j)) else
  match (r.get j).part off k with
  |some u=>dX (!(Nat.beq ko 0)&&qH (bn ko) off k) (some (u,.yes (r.rng j)))
  |none=>none
def ldZ(h:Hz)(k:Nat):V->Fq
 | .ref k' v=>dX (Nat.beq k' k&&Nat.blt 0 (bn k)) (some (v,.no))
 | .ptr i j off=>match h.get i with
  |some (.box _ ko v)=>ldB k j off ko v
  |some (.row _ ko r [])=>ldR k j off ko r
  |_=>none
 |_=>none
def aee(h:Hz)(str:Bool):V->Fq
 | .row _ _ r=>dX (!str) (some (r.lenV,.no))
 | .Fp _ _ l=>dX (!str) (some (.int l.length,.no))
 | .str s=>dX str (some (.int s.length,.no))
 | .own o=>match h.get o with
  |some (.row _ k r x)=>dX (!str&& !(Nat.beq k iM)) (match x with|[]=>some (r.lenV,.no)|x=>some (.int (r.len+x.length),.no))
  |some (.gen _ k x)=>dX (!str&& !(Nat.beq k iM)) (some (.int x.length,.no))
  |_=>none
 | .pU o lo hi=>dX (!str&&(h.get o).isSome) (some (.int (hi-lo:Nat),.no))
 |_=>none
def mxZ:V->V->Fq
 | .int a,.int b=>some (.int (max a b),.no)
 |_,_=>none
def Dp(m:Fm):List X->Option (List V×Sd)
 |[]=>some ([],.no)
 |x::r=>match Dn m x,Dp m r with
  |some v,some (l,s)=>match v.bare with|(u,s')=>some (u::l,s'.and s)
  |_,_=>none
def XP:List (Nat×Nat×X)->List V->List V->Option (List V)
 |[],[],z=>some z
 |(off,n,_)::ps,v::vs,z=>match v.cells with
  |some c=>dX (Nat.beq c.length n&&Nat.ble (off+n) z.length) (XP ps vs (z.take off++c++z.drop (off+n)))
  |none=>none
 |_,_,_=>none
def EM(h:Hz):List V->Bool
 |[]=>true
 |v::r=>v.lC h&&EM h r
def mkZ(m:Fm)(h:Hz)(z:List T)(ps:List (Nat×Nat×X)):Fq :=
 match Dp m (ps.map fun p=>p.2.2) with
 |some (vs,s)=>match XP ps vs (ofL z) with
  |some l=>dX (EM h vs) (some (.agg l,s))
  |none=>none
 |none=>none
def Gp(k:Nat):List V->Bool
 |[]=>true
 |v::r=>(match v.kd with|some k'=>Nat.beq k' k|none=>false)&&Gp k r
def abM(n:Nat):List (Nat×X)->List V->List V->Option (List V)
 |[],[],z=>some z
 |(i,_)::ps,v::vs,z=>dX (Nat.blt i n) (abM n ps vs (z.set i v))
 |_,_,_=>none
def msZ(m:Fm)(h:Hz)(k:Nat)(z:T)(n:Nat)(ps:List (Nat×X)):Fq :=
 match Dp m (ps.map fun p=>p.2) with
 |some (vs,s)=>match abM n ps vs (List.replicate n (EL z)) with
  |some l=>dX ((z.kd==k)&&z.free&&Gp k vs&&EM h vs&&V.bW vs&&Nat.ble (n*bn k) 16777216&&Nat.blt 0 (bn k))
    (match Rw.ofL l with
    |some r=>some (.row k true r,s)
    |none=>some (.Fp k true l,s))
  |none=>none
 |none=>none
def kOk(k k':Nat):Rw->Bool
 | .nil=>true
 |_=>Nat.beq k' k
def TP(m:Fm):Option X->Option (Option V×Sd)
 |none=>some (none,.no)
 |some x=>match Dn m x with
  |some v=>match v.bare with|(u,s)=>some (some u,s)
  |none=>none
def abN(k k':Nat)(f:Bool)(r:Rw):Option V->Option V->Option V->Fq
 |none,none,none=>dX (kOk k k' r) (some (.row k f r,.no))
 |some (.int a),none,none=>dX (kOk k k' r) (some (.row k f (r.drop a.toNat),.yes (r.qM a)))
 |none,some (.int b),none=>dX (kOk k k' r) (some (.row k (f&&decide (b=r.len)) (r.take b.toNat),.yes (r.qM b)))
 |some (.int a),some (.int b),none=>dX (kOk k k' r) (some (.row k false ((r.take b.toNat).drop a.toNat),.yes (0<=a/\a<=b/\r.qM b)))
 |none,some (.int b),some (.int c)=>dX (kOk k k' r) (some (.row k (decide (b=c)) (r.take b.toNat),.yes (0<=b/\b<=c/\r.qM c)))
 |_,_,_=>none
def abO(k i ko:Nat)(r:Rw):Option V->Option V->Option V->Fq
 |some (.int a),none,none=>dX (Nat.beq ko k) (some (.pU i a.toNat r.len,.yes (r.qM a)))
 |none,some (.int b),none=>dX (Nat.beq ko k) (some (.pU i 0 b.toNat,.yes (r.qM b)))
 |some (.int a),some (.int b),none=>dX (Nat.beq ko k) (some (.pU i a.toNat b.toNat,.yes (0<=a/\a<=b/\r.qM b)))
 |_,_,_=>none
def Wy(k i ko:Nat)(r:Rw)(xs:List V):Option V->Option V->Option V->Fq
 |none,some (.int b),none=>dX (Nat.beq ko k) (some (.pU i 0 b.toNat,.yes (r.qM b)))
 |lo,hi,mx=>match xs with|[]=>abO k i ko r lo hi mx|_=>none
def slZ(h:Hz)(x:Bool)(k:Nat)(v:V)(lo hi mx:Option V):Fq :=
 match v with
 | .row k' f r=>abN k k' f r lo hi mx
 | .own i=>bif x then(match h.get i with
  |some (.row _ ko r xs)=>Wy k i ko r xs lo hi mx
  |_=>none) else none
 |_=>none
def slX(m:Fm)(h:Hz)(b:Bool)(k:Nat)(x:X)(lo hi mx:Option X):Fq :=
 Wv m x fun v=>match TP m lo,TP m hi,TP m mx with
  |some (lo,s1),some (hi,s2),some (mx,s3)=>match slZ h b k v lo hi mx with
   |some (u,s)=>some (u,s1.and (s2.and (s3.and s)))
   |none=>none
  |_,_,_=>none
def exZ(i:Nat):V->Fq
 | .dQ l=>match l[i]? with|some v=>some (v,.no)|none=>none
 |_=>none
def agt(ne:Bool)(n:Nat):V->V->Fq
 | .dat (.lin x),.dat (.lin y)=>dX (Nat.beq n 4) (some (.bool (bif ne then !(x==y) else x==y),.no))
 | .dat (.Vo x),.dat (.Vo y)=>dX (Nat.beq n 6) (some (.bool (bif ne then !(x==y) else x==y),.no))
 |_,_=>none
def mfZ(m:Fm)(h:Hz)(f:FuncId)(cap:List X):Fq :=
 match Dp m cap with
 |some (l,s)=>dX (EM h l&&Gp 0 l&&Nat.blt f 4096) (some (.fn f l,s))
 |none=>none
def mbZ(f:FuncId):V->Fq
 | .agg l=>dX (Nat.blt f 4096) (some (.fn (f+4096) l,.no))
 | .dat d=>dX (Nat.blt f 4096) (some (.fn (f+4096) d.cells,.no))
 |_=>none
def qz(m:Fm)(h:Hz):oN->Fq
 | .mv x=>match Dn m x with|some v=>some (v,.no)|none=>none
 | .pick c a b=>Wv m c fun c=>match c,Dn m a,Dn m b with
  | .bool t,some va,some vb=>abL t a b va.bare vb.bare
  |_,_,_=>none
 | .bin op x y=>qz2 m x y (agr op)
 | .bb ne x y=>qz2 m x y fun x y=>match x,y with
  | .bool a,.bool b=>some (.bool (bif ne then !(a==b) else a==b),.no)
  |_,_=>none
 | .not x=>Wv m x fun v=>match v with| .bool b=>some (.bool !b,.no)|_=>none
 | .conv .i64 x=>Wv m x fun v=>match v with
  | .int n=>some (.int n,.yes (okI n))
  | .u8 n=>some (.int n,.yes (okI n))
  | .raw (.lit (.int .u64 n))=>some (.int n,.yes (okI n))
  |_=>none
 | .conv .u64 x=>Wv m x fun v=>match v with
  | .int n=>some (.raw (.lit (.int .u64 n)),.yes (0<=n/\n<18446744073709551616))
  | .raw (.lit (.int .i64 n))=>some (.raw (.lit (.int .u64 (IntKind.u64.wrap n))),.no)
  |_=>none
 | .conv .u8 x=>Wv m x fun v=>match v with
  | .raw (.lit (.int .u64 n))=>some (.u8 n,.yes (0<=n/\n<256))
  |_=>none
 | .fa off k x=>Wv m x (faZ h off k)
 | .ia k x i=>qz2 m x i (iaZ h k)
 | .ch x i=>qz2 m x i chZ
 | .ld k x=>Wv m x (ldZ h k)
 | .len s x=>Wv m x (aee h s)
 | .mx x y=>qz2 m x y mxZ
 | .mk z ps=>mkZ m h z ps
 | .ms _ k z n ps=>msZ m h k z n ps
 | .sl k x lo hi mx=>slX m h false k x lo hi mx
 | .YW k x lo hi mx=>slX m h true k x lo hi mx
 | .ex x i=>Wv m x (exZ i)
 | .mf f cap=>mfZ m h f cap
 | .eqs ne n x y=>qz2 m x y (agt ne n)
 | .mb f x=>Wv m x (mbZ f)
 |_=>none
theorem afA(b:ByteArray):eS b.data.toList= .lit (.string b):=by
 unfold eS bs; simp
mutual
theorem AY:(t:T)->(EL t).aH=t
 | .lit v=>by
  cases v with
  |int k n=>cases k<;>simp[EL,V.aH]
  |bool b=>simp[EL,V.aH]
  |string b=>simp only[EL,V.aH]; exact afA b
  |_=>simp[EL,V.aH]
 | .agg l=>by simp only[EL,V.aH]; rw[Ee l]
 | .sl k f l=>by cases l<;>simp[EL,V.aH,Rw.aU]
 | .ref k t=>by simp[EL,V.aH]
 | .own i=>by simp[EL,V.aH]
 | .ptr i j k=>by simp[EL,V.aH]
 | .pU i j k=>by simp[EL,V.aH]
 | .fn f l=>by simp only[EL,V.aH]; rw[Ee l]
 | .dQ l=>by simp[EL,V.aH]
 | .any=>by simp[EL,V.aH]
theorem Ee:(l:List T)->V.aU (ofL l)=l
 |[]=>rfl
 |t::r=>by simp only[ofL,V.aU]; rw[AY t,Ee r]
end
theorem fH(l:List V):V.aU l=l.map V.aH:=by
 induction l with
 |nil=>rfl
 |cons v r ih=>simp[V.aU,ih]
theorem dW(l:List V):(V.aU l).length=l.length:=by rw[fH]; simp
theorem yc(a b:List V):V.aU (a++b)=V.aU a++V.aU b:=by simp[fH]
theorem MO(a:List V)(n:Nat):V.aU (a.take n)=(V.aU a).take n:=by simp[fH]
theorem MP(a:List V)(n:Nat):V.aU (a.drop n)=(V.aU a).drop n:=by simp[fH]
def Rp(m:Fm)(fr:List T):Prop:= ∀ i v,m.get i=some v->fr[i]? =some v.aH
theorem Rp.getD{m:Fm}{fr:List T}(R:Rp m fr){i:Nat}{v:V}{d:T}(h:m.get i=some v):fr.getD i d=v.aH:=by
 rw[aR,R i v h]; rfl
theorem Rp.ev{m:Fm}{s:AS}(R:Rp m s.fr){x:X}{v:V}(h:Dn m x=some v):s.ev x=v.aH:=by
 cases x with
 |t n=>exact R.getD h
 |c t=>simp only[Dn,bR] at h; subst h; exact(AY t).symm
theorem eH{v u:V}{s:Sd}(h:v.bare=(u,s))(hs:s.holds):v.aH=u.aH:=by
 unfold V.bare at h;split at h
 ·cases h; simp only[Sd.holds] at hs; simp[V.aH,hs]
 ·cases h; rfl
theorem Sd.qw{a b:Sd}:(a.and b).holds↔a.holds/\b.holds:=by cases a<;>cases b<;>simp[Sd.and,Sd.holds]
theorem Sd.O9{t b:Bool}{s:Sd}:(s.imp t b).holds↔(t=b->s.holds):=by cases s<;>simp[Sd.imp,Sd.holds]
theorem qy{m:Fm}{s:AS}(R:Rp m s.fr){x:X}{f:V->Fq}{r:V}{sd:Sd}(h:Wv m x f=some (r,sd))(hs:sd.holds): ∃ u s',f u=some (r,s')/\s'.holds/\s.ev x=u.aH:=by
 unfold Wv at h;split at h
 ·rename_i v hv;split at h;rename_i u s0 hb;split at h
  ·rename_i r' s' hf;cases h;rw[Sd.qw] at hs;exact⟨u,s',hf,hs.2,by rw[R.ev hv,eH hb hs.1]⟩
  ·cases h
 ·cases h
theorem Ef{m:Fm}{s:AS}(R:Rp m s.fr){x y:X}{f:V->V->Fq}{r:V}{sd:Sd}(h:qz2 m x y f=some (r,sd))(hs:sd.holds): ∃ u v s',f u v=some (r,s')/\s'.holds/\s.ev x=u.aH/\s.ev y=v.aH:=by
 obtain⟨u,s',h1,h2,h3⟩:=qy R h hs;obtain⟨v,s'',h4,h5,h6⟩:=qy R h1 h2;exact⟨u,v,s'',h4,h5,h3,h6⟩
theorem aV{α:Type}{b:Bool}{x:Option α}{y:α}(h:dX b x=some y):b=true/\x=some y:=by
 cases b<;>simp[dX] at h; exact⟨rfl,h⟩
theorem ahH{n:Int}(h1:0<=n)(h2:n<18446744073709551616):IntKind.u64.wrap n=n:=by
 have e:IntKind.u64.wrap n=(if(false&&decide (n % 18446744073709551616>=9223372036854775808))=true then n % 18446744073709551616-18446744073709551616 else n % 18446744073709551616):=rfl;rw[e];simp only[Bool.false_and,da,cQ];omega
theorem agu{n:Int}(h1:0<=n)(h2:n<256):IntKind.u8.wrap n=n:=by
 have e:IntKind.u8.wrap n=(if(false&&decide (n % 256>=128))=true then n % 256-256 else n % 256):=rfl;rw[e];simp only[Bool.false_and,da,cQ];omega
theorem XQ{n:Int}(h:okI n):IntKind.i64.wrap n=n:=wrap64 h.1 h.2
theorem Rw.fD(r:Rw):r.aU.length=r.len:=by cases r<;>simp[Rw.aU,Rw.len]
theorem Rw.XR(r:Rw):r.lenV= .int r.len:=by cases r<;>rfl
theorem Rw.AZ{n:Int}{r:Rw}:r.rng n↔(0<=n/\n<r.len):=by cases r<;>simp[Rw.rng,Rw.len]<;>omega
theorem Rw.vF{n:Int}{r:Rw}:r.qM n↔(0<=n/\n<=r.len):=by cases r<;>simp[Rw.qM,Rw.len]<;>omega
theorem getD_map'{α:Type}{f:α->T}{l:List α}{i:Nat}{d:α}(h:i<l.length):(l.map f).getD i .any=f (l.getD i d):=by
 simp[List.getD_eq_getElem?_getD,h]
theorem Rw.QJ{r:Rw}{i:Nat}(h:i<r.len):r.aU.getD i .any=(r.get i).aH:=by
 cases r<;>simp only[Rw.len] at h<;>simp only[Rw.aU,Rw.get,V.aH,Dat.aH,Rw.aU]<;>first|exact getD_map' h|omega
theorem Rw.G6(r:Rw)(n:Nat):(r.take n).aU=r.aU.take n:=by cases r<;>simp[Rw.take,Rw.aU]
theorem Rw.TQ(r:Rw)(n:Nat):(r.drop n).aU=r.aU.drop n:=by cases r<;>simp[Rw.drop,Rw.aU]
theorem Rw.abP(r:Rw):V.aU r.vs=r.aU:=by
 rw[fH];cases r<;>simp[Rw.vs,Rw.aU,V.aH,Dat.aH]
theorem Rw.KD{a b c:Rw}(h:a.app b=some c):c.aU=a.aU++b.aU:=by
 unfold Rw.app at h;split at h<;>first|(cases h; done)|(cases h; simp[Rw.aU])
theorem V.aef{v:V}{r:Rw}(h:v.one=some r):r.aU=[v.aH]:=by
 unfold V.one at h;split at h<;>first|(cases h; done)|(cases h; simp[Rw.aU,V.aH,V.aU,Dat.aH,gB,Ws,Ky])
theorem Rw.Ee: ∀ {l:List V} {r:Rw},Rw.ofL l=some r->r.aU=V.aU l:=by
 intro l;induction l with
 |nil=>intro r h; cases h; rfl
 |cons v l ih =>
  intro r h;simp only[Rw.ofL] at h;split at h
  ·rename_i a b h1 h2;rw[Rw.KD h,V.aef h1,ih h2]; rfl
  ·cases h
theorem V.WA{v:V}{k:Nat}(h:v.kd=some k):v.aH.kd=k:=by
 cases v with
 |dat d=>cases h; exact Dat.agq d
 |_=>simp only[V.kd,bR,reduceCtorEq] at h<;>subst h<;>simp[V.aH,T.kd,eS,dW]
theorem V.Jb{v:V}{l:List V}(h:v.cells=some l):v.aH.cells=V.aU l:=by
 cases v<;>simp only[V.cells,bR,reduceCtorEq] at h<;>subst h<;>simp[V.aH,Dat.Ja,T.cells,eS,V.aU]
theorem Hz.Eh{h:Hz}{i:Nat}:(h.ay i).isSome=(h.get i).isSome:=by simp[Hz.ay]
theorem V.vG{h:Hz}{v:V}(hv:v.lC h=true):v.aH.lC h.ay=true:=by
 cases v<;>simp only[V.lC,da] at hv<;>simp[V.aH,T.lC,T.BO,eS,Value.oneCell',Hz.Eh,hv]
 rename_i d;cases d<;>rfl
theorem V.abQ{h:Hz}{v:V}(hv:v.lC h=true)(hk:v.kd=some 0):v.aH.BO h.ay=true:=by
 cases v<;>simp only[V.lC,da] at hv<;>simp only[V.kd,bR,Nat.succ_ne_zero] at hk<;>simp[V.aH,T.BO,eS,Value.oneCell',Hz.Eh,hv]
 rename_i d;cases d<;>cases hk
theorem Dat.free(d:Dat):d.aH.free=true:=by cases d<;>rfl
mutual
theorem V.o9:(v:V)->v.free=true->v.aH.free=true
 | .int _,_=>by simp[V.aH,T.free]
 | .bool _,_=>by simp[V.aH,T.free]
 | .u8 _,_=>by simp[V.aH,T.free]
 | .str _,_=>by simp[V.aH,T.free,eS]
 | .dat d,_=>by simp only[V.aH]; exact d.free
 | .agg l,h=>by simp only[V.aH,T.free]; simp only[V.free] at h; exact V.iL l h
 | .row _ _ _,_=>by simp[V.aH,T.free]
 | .Fp _ _ _,_=>by simp[V.aH,T.free]
 | .ref _ _,_=>by simp[V.aH,T.free]
 | .own _,h=>by simp[V.free] at h
 | .inn _,h=>by simp[V.free] at h
 | .pin _ _ _,h=>by simp[V.free] at h
 | .ptr _ _ _,h=>by simp[V.free] at h
 | .pU _ _ _,h=>by simp[V.free] at h
 | .fn _ l,h=>by simp only[V.aH,T.free]; simp only[V.free] at h; exact V.iL l h
 | .dQ l,h=>by simp only[V.aH,T.free]; simp only[V.free] at h; exact V.iL l h
 | .cnd _ _,h=>by simp[V.free] at h
 | .raw t,h=>by simp only[V.aH]; simpa only[V.free] using h
theorem V.iL:(l:List V)->V.bW l=true->T.bW (V.aU l)=true
 |[],_=>by simp[V.aU,T.bW]
 |v::r,h=>by
  simp only[V.bW,aD] at h;simp only[V.aU,T.bW,aD];exact⟨V.o9 v h.1,V.iL r h.2⟩
end
theorem yU{l:List V}{i:Nat}{u:V}(h:l[i]? =some u):(V.aU l).getD i .any=u.aH:=by
 rw[fH,aR,cE,h]; rfl
theorem V.MQ{off k:Nat}{v u:V}(h:v.part off k=some u):v.aH.part off k=u.aH:=by
 unfold V.part at h;split at h
 ·simp only[V.aH,Dat.Ja,T.part,T.cells]; exact yU h
 ·simp only[V.aH,T.part,T.cells]; exact yU h
 ·rename_i k x;cases hb:(Nat.beq off 2)&&(Nat.beq k 4) with
  |false=>rw[hb] at h; cases h
  |true =>
   rw[hb] at h;simp only[aD,Nat.beq_eq] at hb;obtain⟨rfl,rfl⟩:=hb;cases h; rfl
 ·cases h;simp only[V.aH,T.part,T.cells,MO,MP]
 ·cases h
theorem fE{a b:Nat}(h:Nat.beq a b=true):a=b:=dv h
section
variable {m:Fm} {h:Hz} {s:AS}
def Ok(s:AS)(op:oN)(v:V):Prop:=qc s op/\qt s op=v.aH
theorem aeg{op:BinOp}{x y:X}{u v r:V}{sd:Sd}(q:agr op u v=some (r,sd))(hs:sd.holds)(h1:s.ev x=u.aH)(h2:s.ev y=v.aH):Ok s (.bin op x y) r:=by
 unfold Ok; simp only[qc,qt]; rw[h1,h2];unfold agr at q;split at q
 ·rename_i a b;split at q<;>first|(cases q; done)|(cases q; simp only[Sd.holds] at hs; simp[V.aH,Et,kEq,XQ,hs])
 ·split at q<;>first|(cases q; done)|(cases q; simp[V.aH,Et,kEq])
 ·split at q
  ·cases q; simp[V.aH,Et,eS,Ec]
  ·cases q; simp[V.aH,Et,eS,Ec]
  ·rename_i a b _;cases q;simp only[Sd.holds] at hs;have hsz:(((bs a).size+(bs b).size:Nat):Int)<=9223372036854775807:=by
    have e1:(bs a).size=a.length:=by simp[bs,ByteArray.size]
    have e2:(bs b).size=b.length:=by simp[bs,ByteArray.size]
    rw[e1,e2]; exact Int.ofNat_le.2 hs
   have hap:bs a++bs b=bs (a++b):=by apply ByteArray.ext; simp[bs]
   have hsz2:((bs a).size:Int)+(bs b).size<=9223372036854775807:=by omega
   simp[V.aH,Et,eS,hsz2,hap]
  ·cases q
 ·split at q
  ·cases q;simp only[Sd.holds] at hs;refine⟨?_,?_⟩
   ·simp only[V.aH,Et,hs,decide_true,bS,Option.isSome]
   ·simp only[V.aH,Et,hs,decide_true,bS]; rfl
  ·cases q; simp[V.aH,Et,kEq]
  ·cases q;simp only[Sd.holds] at hs;simp[V.aH,Et,kEq,hs]
  ·cases q; simp[V.aH,Et,kEq]
  ·cases q; simp[V.aH,Et,kEq]
  ·cases q
 ·cases q
theorem WB{x:X}(hx:Ed x=true):x= .c (.lit (.bool true)):=by
 unfold Ed at hx;split at hx
 ·rfl
 ·cases hx
theorem TR{x:X}(hx:zU x=true):x= .c (.lit (.bool false)):=by
 unfold zU at hx;split at hx
 ·rfl
 ·cases hx
theorem abR{c xa xb:X}{t:Bool}{va vb r:V}{sd:Sd}(R:Rp m s.fr)(ha:Dn m xa=some va)(hb:Dn m xb=some vb)(q:abL t xa xb va.bare vb.bare=some (r,sd))(hs:sd.holds)(hc:s.ev c= .lit (.bool t)):Ok s (.pick c xa xb) r:=by
 unfold Ok; simp only[qc,qt]; rw[hc];refine⟨rfl,?_⟩;unfold abL at q;split at q;rename_i a sa b sb ea eb;split at q
 ·rename_i v hp;cases q;rw[Sd.qw,Sd.O9,Sd.O9] at hs;have h1:t=true->s.ev xa=a.aH:=fun e=>by rw[R.ev ha,eH ea (hs.1 e)]
  have h2:t=false->s.ev xb=b.aH:=fun e=>by rw[R.ev hb,eH eb (hs.2 e)]
  unfold afz at hp;split at hp
  ·rename_i x y;have hp':r= .bool (bif Ed xa then t||y else bif zU xb then t&&x else bif t then x else y):=by
    cases e1:Ed xa<;>cases e2:zU xb<;>simp[e1,e2] at hp ⊢ <;>exact hp.symm
   subst hp';have key:CP (.lit (.bool t)) (s.ev xa) (s.ev xb)= .lit (.bool (bif t then x else y)):=by
    cases t with
    |true =>
     rw[h1 rfl]; simp only[V.aH,CP];split<;>simp_all
    |false =>
     rw[h2 rfl]; simp only[V.aH,CP];split<;>simp_all
   rw[key];simp only[V.aH]
   congr 2
   cases e1:Ed xa with
   |true =>
    have:=WB e1; subst this;simp only[Dn,bR] at ha; subst ha;simp only[EL,V.bare,Prod.mk.injEq] at ea;have:=ea.1; cases this;cases t<;>rfl
   |false =>
    cases e2:zU xb with
    |true =>
     have:=TR e2; subst this;simp only[Dn,bR] at hb; subst hb;simp only[EL,V.bare,Prod.mk.injEq] at eb;have:=eb.1; cases this;cases t<;>simp
    |false=>rfl
  ·cases hp;cases t with
   |true=>rw[h1 rfl]; simp only[V.aH,CP,bS]
   |false=>rw[h2 rfl]; simp only[V.aH,CP,bO]; split<;>simp_all
  ·cases hp;cases t with
   |true=>rw[h1 rfl]; simp only[V.aH,CP,bS,eS]
   |false=>rw[h2 rfl]; simp only[V.aH,CP,bO,eS]; split<;>simp_all
  ·cases hp
 ·cases q
theorem WC{k:Nat}{p:Option V}{r:V}{sd:Sd}(q:V.Wx k p=some (r,sd)): ∃ u,p=some u/\r= .ref k u:=by
 unfold V.Wx at q;split at q
 ·cases q; exact⟨_,rfl,rfl⟩
 ·cases q
theorem TS{p:Option V}{r:V}{sd:Sd}(q:V.KC p=some (r,sd)):p=some r:=by
 unfold V.KC at q;split at q
 ·cases q; rfl
 ·cases q
theorem aeh{k:Nat}(h:(!(Nat.beq k 0))=true):(!(k==0))=true:=by
 cases k<;>simp_all
theorem agv(hh:s.hp=h.ay){off k:Nat}{x:X}{u r:V}{sd:Sd}(q:faZ h off k u=some (r,sd))(h1:s.ev x=u.aH):Ok s (.fa off k x) r:=by
 unfold Ok; simp only[qc,qt]; rw[h1];unfold faZ at q;split at q
 ·obtain⟨g,q⟩:=aV q;obtain⟨u,e,rfl⟩:=WC q;simp only[aD] at g;simp only[V.aH,V.MQ e,aD];exact⟨⟨aeh g.1,g.2⟩,trivial⟩
 ·obtain⟨g,q⟩:=aV q;cases q;simp only[V.aH,hh,Hz.Eh,g,and_self]
 ·cases q
theorem aO{i:Nat}{o:OV}(e:h.get i=some o):h.ay i=some o.au:=by simp[Hz.ay,e]
theorem aei: ∀ {l:List V} {i:Nat} {v:V},ags l i=some v->i<l.length/\(V.aU l).getD i .any=v.aH:=by
 intro l;induction l with
 |nil=>intro i v h; cases h
 |cons u r ih =>
  intro i v h;cases i with
  |zero=>cases h; exact⟨Nat.succ_pos _,rfl⟩
  |succ i =>
   obtain⟨a,b⟩:=ih h;exact⟨Nat.succ_lt_succ a,by simpa [V.aU] using b⟩
theorem abS(hh:s.hp=h.ay){k:Nat}{x i:X}{u v r:V}{sd:Sd}(q:iaZ h k u v=some (r,sd))(hs:sd.holds)(h1:s.ev x=u.aH)(h2:s.ev i=v.aH):Ok s (.ia k x i) r:=by
 unfold Ok; simp only[qc,qt]; rw[h1,h2];unfold iaZ at q;split at q
 ·rename_i k' f l n;split at q
  ·rename_i v hv;obtain⟨g,q⟩:=aV q;cases q;have:=fE g; subst this;simp only[Sd.holds] at hs;obtain⟨a,b⟩:=aei hv;simp only[V.aH,inR,dW];exact⟨⟨trivial,hs,by omega⟩,by rw[b]⟩
  ·cases q
 ·rename_i k' f w n;obtain⟨g,q⟩:=aV q;cases q;have:=fE g; subst this;simp only[Sd.holds,Rw.AZ] at hs;simp only[V.aH,inR,Rw.fD];refine⟨⟨trivial,hs⟩,?_⟩;rw[Rw.QJ (by omega)]
 ·rename_i o n;split at q
  ·rename_i ty k' w e;obtain⟨g,q⟩:=aV q;cases q;have:=fE g; subst this;simp only[Sd.holds,Rw.AZ] at hs;simp only[V.aH,hh,aO e,OV.au,V.aU,cN,inR,Rw.fD];exact⟨⟨trivial,hs⟩,trivial⟩
  ·rename_i ty k' x e;obtain⟨g,q⟩:=aV q;cases q;have:=fE g; subst this;simp only[Sd.holds] at hs;simp only[V.aH,hh,aO e,OV.au,inR,dW];exact⟨⟨trivial,hs⟩,trivial⟩
  ·cases q
 ·rename_i o lo hi n;split at q
  ·rename_i ty k' w e;obtain⟨g,q⟩:=aV q;cases q;have:=fE g; subst this;simp only[Sd.holds] at hs;simp only[V.aH,hh,aO e,OV.au,inR];exact⟨⟨trivial,hs⟩,trivial⟩
  ·cases q
 ·cases q
theorem agw{x i:X}{u v r:V}{sd:Sd}(q:chZ u v=some (r,sd))(hs:sd.holds)(h1:s.ev x=u.aH)(h2:s.ev i=v.aH):Ok s (.ch x i) r:=by
 unfold Ok; simp only[qc,qt]; rw[h1,h2];unfold chZ at q;split at q
 ·cases q;simp only[Sd.holds] at hs;simp only[V.aH,eS,inR,KA,abK];exact⟨hs,trivial⟩
 ·cases q;simp only[Sd.holds] at hs;simp only[V.aH,eS,inR,KA,abK];exact⟨hs,trivial⟩
 ·cases q
theorem WE(hh:s.hp=h.ay){k:Nat}{x:X}{u r:V}{sd:Sd}(q:ldZ h k u=some (r,sd))(hs:sd.holds)(h1:s.ev x=u.aH):Ok s (.ld k x) r:=by
 unfold Ok; simp only[qc,qt]; rw[h1];unfold ldZ at q;split at q
 ·obtain⟨g,q⟩:=aV q;cases q;simp only[aD] at g;have:=fE g.1; subst this;simp[V.aH,g.2]
 ·rename_i i j off;split at q
  ·rename_i ty ko v e;simp only[V.aH,hh,aO e,OV.au];unfold ldB at q;cases hj:Nat.beq j 0 with
   |false=>rw[hj] at q; cases q
   |true =>
    have:=fE hj; subst this;rw[hj] at q;simp only[bS] at q;cases hb:(Nat.beq off 0&&Nat.beq ko k) with
    |true =>
     rw[hb] at q; cases q;simp only[aD] at hb;have e1:=fE hb.1; have e2:=fE hb.2; subst e1; subst e2;simp
    |false =>
     rw[hb] at q;simp only[bO] at q;obtain⟨g,q⟩:=aV q;have hb':(off==0&&ko==k)=false:=by
      rw[cC] at hb ⊢;rcases hb with hb|hb
      ·left; simpa using cP hb
      ·right; simpa using cP hb
     simp only[hb',bO,cr,f7,V.MQ (TS q),bL,cD];simp only[aD] at g ⊢;exact⟨⟨by omega,aeh g.1,g.2⟩,trivial⟩
  ·rename_i ty ko w e;simp only[V.aH,hh,aO e,OV.au,V.aU,cN];unfold ldR at q;cases hb:(Nat.beq off 0&&Nat.beq ko k) with
   |true =>
    rw[hb] at q; cases q;simp only[aD] at hb;have e1:=fE hb.1; have e2:=fE hb.2; subst e1; subst e2;simp only[Sd.holds,Rw.AZ] at hs;have hlt:j<w.len:=by omega
    simp only[BEq.rfl,eZ,Bool.true_or,bS,Rw.fD,Rw.QJ hlt];exact⟨⟨hlt,trivial⟩,trivial⟩
   |false =>
    rw[hb] at q;simp only[bO] at q;split at q
    ·rename_i u hu;obtain⟨g,q⟩:=aV q;cases q;have hb':(off==0&&ko==k)=false:=by
      rw[cC] at hb ⊢;rcases hb with hb|hb
      ·left; simpa using cP hb
      ·right; simpa using cP hb
     simp only[Sd.holds,Rw.AZ] at hs;have hlt:j<w.len:=by omega
     simp only[hb',bO,cr,Rw.fD,Rw.QJ hlt,V.MQ hu];simp only[aD] at g ⊢;exact⟨⟨hlt,aeh g.1,g.2⟩,trivial⟩
    ·cases q
  ·cases q
 ·cases q
theorem XT(hh:s.hp=h.ay){str:Bool}{x:X}{u r:V}{sd:Sd}(q:aee h str u=some (r,sd))(h1:s.ev x=u.aH):Ok s (.len str x) r:=by
 unfold Ok; simp only[qc,qt]; rw[h1];unfold aee at q;split at q
 ·obtain⟨g,q⟩:=aV q; cases q;simp only[bo] at g;simp[V.aH,Rw.XR,Rw.fD,g]
 ·obtain⟨g,q⟩:=aV q; cases q;simp only[bo] at g;simp[V.aH,dW,g]
 ·obtain⟨g,q⟩:=aV q; cases q;simp[V.aH,eS,KA,g]
 ·rename_i o;split at q
  ·rename_i ty k w y e;obtain⟨g,q⟩:=aV q;simp only[aD,bo] at g;have hk:k≠iM:=cP g.2;split at q
   ·cases q;simp only[V.aH,hh,aO e,OV.au,V.aU,cN,Rw.XR,Rw.fD];exact⟨⟨g.1,hk⟩,trivial⟩
   ·cases q;simp only[V.aH,hh,aO e,OV.au,aM,dW,Rw.fD];exact⟨⟨g.1,hk⟩,by simp⟩
  ·rename_i ty k x e;obtain⟨g,q⟩:=aV q;cases q;simp only[aD,bo] at g;simp only[V.aH,hh,aO e,OV.au,dW];exact⟨⟨g.1,cP g.2⟩,trivial⟩
  ·cases q
 ·rename_i o lo hi;obtain⟨g,q⟩:=aV q; cases q;simp only[aD,bo] at g;simp[V.aH,hh,Hz.Eh,g]
 ·cases q
theorem agx{x y:X}{u v r:V}{sd:Sd}(q:mxZ u v=some (r,sd))(h1:s.ev x=u.aH)(h2:s.ev y=v.aH):Ok s (.mx x y) r:=by
 unfold Ok; simp only[qc,qt]; rw[h1,h2];unfold mxZ at q;split at q
 ·rename_i a b;cases q; simp only[V.aH,ga]; congr 2; split<;>omega
 ·cases q
theorem agy{i:Nat}{x:X}{u r:V}{sd:Sd}(q:exZ i u=some (r,sd))(h1:s.ev x=u.aH):Ok s (.ex x i) r:=by
 unfold Ok; simp only[qc,qt]; rw[h1];unfold exZ at q;split at q
 ·split at q
  ·rename_i l _ v e;cases q;have hi:i<l.length:=(bi.1 e).1;simp only[V.aH,cW,dW,yU e];exact⟨hi,trivial⟩
  ·cases q
 ·cases q
theorem aej{ne:Bool}{n:Nat}{x y:X}{u v r:V}{sd:Sd}(q:agt ne n u v=some (r,sd))(h1:s.ev x=u.aH)(h2:s.ev y=v.aH):Ok s (.eqs ne n x y) r:=by
 unfold Ok; simp only[qc,qt]; rw[h1,h2];unfold agt at q;split at q
 ·rename_i x y;obtain⟨g,q⟩:=aV q; cases q;have:=fE g; subst this;have e:uJ [.int x.c,.int x.n,.int x.t,.int x.f] [.int y.c,.int y.n,.int y.t,.int y.f]=(x==y):=by
   cases x; cases y; simp[uJ,BEq.beq]
  simp only[V.aH,Dat.aH,Wq,e];exact⟨rfl,trivial⟩
 ·rename_i x y;obtain⟨g,q⟩:=aV q; cases q;have:=fE g; subst this;have e:uJ [.int x.message,.int x.GZ,.int x.bound.c,.int x.bound.n,.int x.bound.t,.int x.bound.f] [.int y.message,.int y.GZ,.int y.bound.c,.int y.bound.n,.int y.bound.t,.int y.bound.f]=(x==y):=by
   obtain⟨a,b,c,d,e,f⟩:=x; obtain⟨a',b',c',d',e',f'⟩:=y; simp[uJ,BEq.beq]
  simp only[V.aH,Dat.aH,TJ,e];exact⟨rfl,trivial⟩
 ·cases q
end
section
variable {m:Fm} {h:Hz} {s:AS}
theorem tN(R:Rp m s.fr): ∀ {xs:List X} {l:List V} {sd:Sd},Dp m xs=some (l,sd)->sd.holds->xs.map s.ev=V.aU l:=by
 intro xs;induction xs with
 |nil=>intro l sd q _; cases q; rfl
 |cons x r ih =>
  intro l sd q hs;simp only[Dp] at q;split at q
  ·rename_i v l' s' h1 h2;cases q;rw[Sd.qw] at hs;simp only[cG,V.aU];rw[R.ev h1,eH (v:=v) (u:=v.bare.1) (s:=v.bare.2) rfl hs.1,ih h2 hs.2]
  ·cases q
theorem Jc: ∀ {l:List V},EM h l=true->xH h.ay (V.aU l)=true:=by
 intro l;induction l with
 |nil=>intro _; rfl
 |cons v r ih =>
  intro q;simp only[EM,aD] at q;simp only[V.aU,xH,aD];exact⟨V.vG q.1,ih q.2⟩
theorem KE{k:Nat}: ∀ {l:List V},Gp k l=true-> ∀ v∈l,v.kd=some k:=by
 intro l;induction l with
 |nil=>intro _ v hv; cases hv
 |cons u r ih =>
  intro q v hv;simp only[Gp,aD] at q;rcases br.1 hv with rfl|hv
  ·have:=q.1;split at this
   ·rename_i k' e; rw[e,fE this]
   ·cases this
  ·exact ih q.2 v hv
theorem Zp: ∀ {l:List V},EM h l=true->Gp 0 l=true->AA h.ay (V.aU l)=true:=by
 intro l;induction l with
 |nil=>intro _ _; rfl
 |cons v r ih =>
  intro q k;have hk:=KE k v (by simp);simp only[EM,Gp,aD] at q k;simp only[V.aU,AA,aD];exact⟨V.abQ q.1 hk,ih q.2 k.2⟩
theorem abT: ∀ {ps:List (Nat×Nat×X)} {vs z l:List V},XP ps vs z=some l->(ps.map fun p=>s.ev p.2.2)=V.aU vs ->
  IG (V.aU z) (ps.map fun p=>(p.1,p.2.1,s.ev p.2.2))=true/\JA (V.aU z) (ps.map fun p=>(p.1,p.2.1,s.ev p.2.2))=V.aU l:=by
 intro ps;induction ps with
 |nil =>
  intro vs z l q he;cases vs with
  |nil=>cases q; exact⟨rfl,rfl⟩
  |cons v vs=>simp[V.aU] at he
 |cons p ps ih =>
  intro vs z l q he;obtain⟨off,n,x⟩:=p;cases vs with
  |nil=>simp[V.aU] at he
  |cons v vs =>
   simp only[XP] at q;split at q
   ·rename_i c hc;obtain⟨g,q⟩:=aV q;simp only[cG,V.aU,eR] at he;simp only[aD] at g;have e1:=fE g.1;obtain⟨i1,i2⟩:=ih q he.2;simp only[cG,IG,JA,aD];have ec:(s.ev x).cells=V.aU c:=by rw[he.1]; exact V.Jb hc
    simp only[yc,MO,MP] at i1 i2;simp only[ec,dW];refine⟨⟨⟨by simpa using e1,g.2⟩,i1⟩,i2⟩
   ·cases q
theorem agz(R:Rp m s.fr)(hh:s.hp=h.ay){z:List T}{ps:List (Nat×Nat×X)}{r:V}{sd:Sd}(q:mkZ m h z ps=some (r,sd))(hs:sd.holds):Ok s (.mk z ps) r:=by
 unfold mkZ at q;split at q
 ·rename_i vs s' hb;split at q
  ·rename_i l hl;obtain⟨g,q⟩:=aV q;cases q;have he:=tN R hb hs;have he':(ps.map fun p=>s.ev p.2.2)=V.aU vs:=by rw[<- he]; simp
   obtain⟨i1,i2⟩:=abT hl he';rw[Ee] at i1 i2;unfold Ok; simp only[qc,qt];rw[i1,i2,he',hh,Jc g];exact⟨rfl,rfl⟩
  ·cases q
 ·cases q
theorem XU{k n:Nat}: ∀ {ps:List (Nat×X)} {vs z l:List V},abM n ps vs z=some l->(ps.map fun p=>s.ev p.2)=V.aU vs->Gp k vs=true ->
  LG k n (ps.map fun p=>(p.1,s.ev p.2))=true/\tu (V.aU z) (ps.map fun p=>(p.1,s.ev p.2))=V.aU l:=by
 intro ps;induction ps with
 |nil =>
  intro vs z l q he _;cases vs with
  |nil=>cases q; exact⟨rfl,rfl⟩
  |cons v vs=>simp[V.aU] at he
 |cons p ps ih =>
  intro vs z l q he hk;obtain⟨i,x⟩:=p;cases vs with
  |nil=>simp[V.aU] at he
  |cons v vs =>
   simp only[abM] at q;obtain⟨g,q⟩:=aV q;simp only[cG,V.aU,eR] at he;have hkv:=KE hk v (by simp);simp only[Gp,aD] at hk;obtain⟨i1,i2⟩:=ih q he.2 hk.2;have e:V.aU (z.set i v)=(V.aU z).set i (s.ev x):=by rw[he.1]; simp[fH,List.map_set]
   rw[e] at i2;simp only[cG,LG,tu,aD];refine⟨⟨⟨?_,g⟩,i1⟩,i2⟩;rw[he.1,V.WA hkv]; simp
theorem agA(R:Rp m s.fr)(hh:s.hp=h.ay){ty k:Nat}{z:T}{n:Nat}{ps:List (Nat×X)}{r:V}{sd:Sd}(q:msZ m h k z n ps=some (r,sd))(hs:sd.holds):Ok s (.ms ty k z n ps) r:=by
 unfold msZ at q;split at q
 ·rename_i vs s' hb;split at q
  ·rename_i l hl;obtain⟨g,q⟩:=aV q;have hs':s'.holds/\r.aH= .sl k true (V.aU l):=by
    split at q
    ·rename_i w hw;cases q; exact⟨hs,by simp only[V.aH]; rw[Rw.Ee hw]⟩
    ·cases q; exact⟨hs,rfl⟩
   have he:=tN R hb hs'.1;have he':(ps.map fun p=>s.ev p.2)=V.aU vs:=by rw[<- he]; simp
   simp only[aD] at g;obtain⟨⟨⟨⟨⟨⟨g1,g2⟩,g3⟩,g4⟩,g5⟩,g6⟩,g7⟩:=g;obtain⟨i1,i2⟩:=XU hl he' g3;have e:V.aU (List.replicate n (EL z))=List.replicate n z:=by rw[fH,fh,AY]
   rw[e] at i2;unfold Ok; simp only[qc,qt];rw[i1,i2,he',hh,Jc g4,V.iL _ g5,g1,g2,g6,g7,hs'.2];exact⟨rfl,rfl⟩
  ·cases q
 ·cases q
theorem MR(R:Rp m s.fr){x:Option X}{v:Option V}{sd:Sd}(q:TP m x=some (v,sd))(hs:sd.holds):x.map s.ev=v.map V.aH:=by
 cases x with
 |none=>cases q; rfl
 |some x =>
  simp only[TP] at q;split at q
  ·rename_i u hu;cases q;simp only[bx]; rw[R.ev hu,eH (v:=u) (u:=u.bare.1) (s:=u.bare.2) rfl hs]
  ·cases q
theorem Jd{k k':Nat}{r:Rw}(g:kOk k k' r=true):k'=k\/r.aU=[]:=by
 unfold kOk at g;split at g
 ·exact .inr rfl
 ·exact .inl (fE g)
theorem TT{k k':Nat}{f:Bool}{w:Rw}{lo hi mx:Option V}{r:V}{sd:Sd}(q:abN k k' f w lo hi mx=some (r,sd))(hs:sd.holds) :
  slC k (.sl k' f w.aU) (lo.map V.aH) (hi.map V.aH) (mx.map V.aH)/\SG k (.sl k' f w.aU) (lo.map V.aH) (hi.map V.aH) (mx.map V.aH)=r.aH:=by
 unfold abN at q;split at q
 ·obtain⟨g,q⟩:=aV q; cases q;simp only[eO,slC,SG,V.aH];exact⟨Jd g,trivial⟩
 ·obtain⟨g,q⟩:=aV q; cases q;simp only[Sd.holds,Rw.vF] at hs;simp only[eO,bx,slC,SG,V.aH,Rw.TQ,Rw.fD];exact⟨⟨Jd g,hs⟩,trivial⟩
 ·obtain⟨g,q⟩:=aV q; cases q;simp only[Sd.holds,Rw.vF] at hs;simp only[eO,bx,slC,SG,V.aH,Rw.G6,Rw.fD];exact⟨⟨Jd g,hs⟩,trivial⟩
 ·obtain⟨g,q⟩:=aV q; cases q;simp only[Sd.holds,Rw.vF] at hs;simp only[eO,bx,slC,SG,V.aH,Rw.G6,Rw.TQ,Rw.fD];exact⟨⟨Jd g,hs.1,hs.2.1,hs.2.2.2⟩,trivial⟩
 ·obtain⟨g,q⟩:=aV q; cases q;simp only[Sd.holds,Rw.vF] at hs;simp only[eO,bx,slC,SG,V.aH,Rw.G6,Rw.fD];exact⟨⟨Jd g,hs.1,hs.2.1,hs.2.2.2⟩,trivial⟩
 ·cases q
theorem abU{k i ty ko:Nat}{w:Rw}{lo hi mx:Option V}{r:V}{sd:Sd}(q:abO k i ko w lo hi mx=some (r,sd))(hs:sd.holds) :
  Gt k ⟨ty,ko,w.aU⟩ (lo.map V.aH) (hi.map V.aH) (mx.map V.aH)/\BF i ⟨ty,ko,w.aU⟩ (lo.map V.aH) (hi.map V.aH) (mx.map V.aH)=r.aH:=by
 unfold abO at q;split at q
 ·obtain⟨g,q⟩:=aV q; cases q;simp only[Sd.holds,Rw.vF] at hs;simp only[eO,bx,Gt,BF,V.aH,Rw.fD];exact⟨⟨fE g,hs⟩,trivial⟩
 ·obtain⟨g,q⟩:=aV q; cases q;simp only[Sd.holds,Rw.vF] at hs;simp only[eO,bx,Gt,BF,V.aH,Rw.fD];exact⟨⟨fE g,hs⟩,trivial⟩
 ·obtain⟨g,q⟩:=aV q; cases q;simp only[Sd.holds,Rw.vF] at hs;simp only[eO,bx,Gt,BF,V.aH,Rw.fD];exact⟨⟨fE g,hs.1,hs.2.1,hs.2.2.2⟩,trivial⟩
 ·cases q
theorem Zq{k i ty ko:Nat}{w:Rw}{xs:List V}{lo hi mx:Option V}{r:V}{sd:Sd}(q:Wy k i ko w xs lo hi mx=some (r,sd))(hs:sd.holds) :
  Gt k ⟨ty,ko,w.aU++V.aU xs⟩ (lo.map V.aH) (hi.map V.aH) (mx.map V.aH)/\BF i ⟨ty,ko,w.aU++V.aU xs⟩ (lo.map V.aH) (hi.map V.aH) (mx.map V.aH)=r.aH:=by
 unfold Wy at q;split at q
 ·obtain⟨g,q⟩:=aV q; cases q;simp only[Sd.holds,Rw.vF] at hs;simp only[eO,bx,Gt,BF,V.aH];refine⟨⟨fE g,hs.1,?_⟩,trivial⟩;have:=hs.2;simp only[aM,Rw.fD]; omega
 ·split at q
  ·simp only[V.aU,cN]; exact abU q hs
  ·cases q
theorem XV(R:Rp m s.fr){b:Bool}{k:Nat}{x:X}{lo hi mx:Option X}{r:V}{sd:Sd}(q:slX m h b k x lo hi mx=some (r,sd))(hs:sd.holds) :
  ∃ v lo' hi' mx' s',slZ h b k v lo' hi' mx'=some (r,s')/\s'.holds/\s.ev x=v.aH/\lo.map s.ev=lo'.map V.aH/\hi.map s.ev=hi'.map V.aH/\mx.map s.ev=mx'.map V.aH:=by
 obtain⟨v,s',q,hs,hv⟩:=qy R q hs;split at q
 ·rename_i lo' s1 hi' s2 mx' s3 e1 e2 e3;split at q
  ·rename_i u s4 e4;cases q;rw[Sd.qw,Sd.qw,Sd.qw] at hs;exact⟨v,lo',hi',mx',s4,e4,hs.2.2.2,hv,MR R e1 hs.1,MR R e2 hs.2.1,MR R e3 hs.2.2.1⟩
  ·cases q
 ·cases q
theorem ahI(R:Rp m s.fr){k:Nat}{x:X}{lo hi mx:Option X}{r:V}{sd:Sd}(q:slX m h false k x lo hi mx=some (r,sd))(hs:sd.holds):Ok s (.sl k x lo hi mx) r:=by
 obtain⟨v,lo',hi',mx',s',q,hs,hv,e1,e2,e3⟩:=XV R q hs;unfold Ok; simp only[qc,qt]; rw[hv,e1,e2,e3];unfold slZ at q;split at q
 ·exact TT q hs
 ·cases q
 ·cases q
theorem agB(R:Rp m s.fr)(hh:s.hp=h.ay){k:Nat}{x:X}{lo hi mx:Option X}{r:V}{sd:Sd}(q:slX m h true k x lo hi mx=some (r,sd))(hs:sd.holds):Ok s (.YW k x lo hi mx) r:=by
 obtain⟨v,lo',hi',mx',s',q,hs,hv,e1,e2,e3⟩:=XV R q hs;unfold Ok; simp only[qc,qt]; rw[hv,e1,e2,e3];unfold slZ at q;split at q
 ·exact TT q hs
 ·simp only[bS] at q;split at q
  ·rename_i i _ ty ko w xs e;simp only[V.aH,hh,aO e,OV.au];exact Zq q hs
  ·cases q
 ·cases q
theorem agC(R:Rp m s.fr)(hh:s.hp=h.ay){f:FuncId}{cap:List X}{r:V}{sd:Sd}(q:mfZ m h f cap=some (r,sd))(hs:sd.holds):Ok s (.mf f cap) r:=by
 unfold mfZ at q;split at q
 ·rename_i l s' hb;obtain⟨g,q⟩:=aV q;cases q;simp only[aD] at g;unfold Ok; simp only[qc,qt];rw[tN R hb hs,hh,Zp g.1.1 g.1.2,g.2];exact⟨rfl,rfl⟩
 ·cases q
theorem agD{f:FuncId}{x:X}{v r:V}{sd:Sd}(q:mbZ f v=some (r,sd))(h1:s.ev x=v.aH):Ok s (.mb f x) r:=by
 unfold mbZ at q;split at q
 ·obtain⟨g,q⟩:=aV q; cases q;unfold Ok; simp only[qc,qt]; rw[h1]; exact⟨cW.mp g,rfl⟩
 ·obtain⟨g,q⟩:=aV q; cases q;rename_i d;unfold Ok; simp only[qc,qt]; rw[h1]; simp only[V.aH]; rw[Dat.Ja]; exact⟨cW.mp g,rfl⟩
 ·cases q
theorem abV(R:Rp m s.fr)(hh:s.hp=h.ay){op:oN}{r:V}{sd:Sd}(q:qz m h op=some (r,sd))(hs:sd.holds):bH op=true/\Ok s op r:=by
 unfold qz at q;split at q
 ·split at q
  ·rename_i v e; cases q;exact⟨rfl,trivial,R.ev e⟩
  ·cases q
 ·obtain⟨c,s',q,hs,hc⟩:=qy R q hs;split at q
  ·rename_i t va vb e1 e2;exact⟨rfl,abR R e1 e2 q hs hc⟩
  ·cases q
 ·obtain⟨u,v,s',q,hs,h1,h2⟩:=Ef R q hs;exact⟨rfl,aeg q hs h1 h2⟩
 ·obtain⟨u,v,s',q,hs,h1,h2⟩:=Ef R q hs;split at q
  ·cases q; refine⟨rfl,?_⟩; unfold Ok; simp only[qc,qt]; rw[h1,h2]; exact⟨rfl,rfl⟩
  ·cases q
 ·obtain⟨u,s',q,hs,h1⟩:=qy R q hs;split at q
  ·cases q; refine⟨rfl,?_⟩; unfold Ok; simp only[qc,qt]; rw[h1]; exact⟨rfl,rfl⟩
  ·cases q
 ·obtain⟨u,s',q,hs,h1⟩:=qy R q hs;split at q
  ·cases q; refine⟨rfl,?_⟩; unfold Ok; simp only[qc,qt]; rw[h1]; simp only[V.aH,ga]; rw[XQ hs]
  ·cases q; refine⟨rfl,?_⟩; unfold Ok; simp only[qc,qt]; rw[h1]; simp only[V.aH,ga]; rw[XQ hs]
  ·cases q; refine⟨rfl,?_⟩; unfold Ok; simp only[qc,qt]; rw[h1]; simp only[V.aH,ga]; rw[XQ hs]
  ·cases q
 ·obtain⟨u,s',q,hs,h1⟩:=qy R q hs;split at q
  ·cases q; refine⟨rfl,?_⟩; unfold Ok; simp only[qc,qt]; rw[h1]; simp only[V.aH,ga]; rw[ahH hs.1 hs.2]
  ·cases q; refine⟨rfl,?_⟩; unfold Ok; simp only[qc,qt]; rw[h1]; exact⟨trivial,rfl⟩
  ·cases q
 ·obtain⟨u,s',q,hs,h1⟩:=qy R q hs;split at q
  ·cases q; refine⟨rfl,?_⟩; unfold Ok; simp only[qc,qt]; rw[h1]; simp only[V.aH,ga]; rw[agu hs.1 hs.2]
  ·cases q
 ·obtain⟨u,s',q,hs,h1⟩:=qy R q hs; exact⟨rfl,agv hh q h1⟩
 ·obtain⟨u,v,s',q,hs,h1,h2⟩:=Ef R q hs; exact⟨rfl,abS hh q hs h1 h2⟩
 ·obtain⟨u,v,s',q,hs,h1,h2⟩:=Ef R q hs; exact⟨rfl,agw q hs h1 h2⟩
 ·obtain⟨u,s',q,hs,h1⟩:=qy R q hs; exact⟨rfl,WE hh q hs h1⟩
 ·obtain⟨u,s',q,hs,h1⟩:=qy R q hs; exact⟨rfl,XT hh q h1⟩
 ·obtain⟨u,v,s',q,hs,h1,h2⟩:=Ef R q hs; exact⟨rfl,agx q h1 h2⟩
 ·exact⟨rfl,agz R hh q hs⟩
 ·exact⟨rfl,agA R hh q hs⟩
 ·exact⟨rfl,ahI R q hs⟩
 ·exact⟨rfl,agB R hh q hs⟩
 ·obtain⟨u,s',q,hs,h1⟩:=qy R q hs; exact⟨rfl,agy q h1⟩
 ·exact⟨rfl,agC R hh q hs⟩
 ·obtain⟨u,v,s',q,hs,h1,h2⟩:=Ef R q hs; exact⟨rfl,aej q h1 h2⟩
 ·obtain⟨u,s',q,hs,h1⟩:=qy R q hs; exact⟨rfl,agD q h1⟩
 ·cases q
end
structure ah(P:Program)(dr:Bool)(g:Option Bool)(f:FuncId)(args:List V)(h:Hz)(n:Nat)(K:V->Hz->Prop)(KW:Nat->V->Hz->Prop):Prop where
 ok:(match g with
  |none=>aP P f (V.aU args) h.ay n fun t hp=> ∃ v h',t=v.aH/\hp=h'.ay/\(dr=true->h'=h/\t.free=true)/\K v h'
  |some b=>(∃ v,(b=true->aP P f (V.aU args) h.ay n fun t hp=>t=v.aH/\hp=h.ay)/\v.free=true/\K v h) \/
   (dr=false/\(b=true->aP P f (V.aU args) h.ay n fun t hp=> ∃ v h',t=v.aH/\hp=h'.ay/\K v h')/\(b=false->K (.int 0) h))) \/
  (g=none/\dr=false/\ ∃ k,jP P f (V.aU args) h.ay n k fun t hp=> ∃ v h',t=v.aH/\hp=h'.ay/\KW k v h') \/
  (g=none/\dr=true/\h.get n=none/\aP P f (V.aU args) h.ay n fun t hp=> ∃ v o,t=v.aH/\hp=Hz.ay ((n,some o)::h)/\KW 0 v ((n,some o)::h))
structure ahJ(P:Program)(f:FuncId)(args:List V)(h:Hz)(n:Nat)(K:V->Hz->Prop):Prop where
 ok: ∃ (v:V) (o:Option OV),v.aH.ids (fun i=>i=n)/\(∀ ob,o=some ob->T.bW ob.au.l=true) /\
  (∀ hp:Hp,(∀ i ob,h.ay i=some ob->hp i=some ob)->aP P f (V.aU args) hp n fun t' h'=>t'=v.aH/\h'=jF hp n (o.map OV.au)) /\
  K v (match o with|none=>h|some o=>(n,some o)::h)
structure ahK(P:Program)(f:FuncId)(cap args:List V)(h:Hz)(n:Nat)(K:V->Hz->Prop):Prop where
 ok:IK P (.fn f (V.aU cap)) (V.aU args) h.ay n fun t hp=> ∃ v h',t=v.aH/\hp=h'.ay/\K v h'
def aiB(dr:Bool)(g:Option Bool)(a b:Prop):Prop :=
 match dr with
 |true=>False
 |false=>match g with
  |none=>a
  |some c=>Fork c a b
def Fv(dr fl:Bool)(a b c:Prop):Prop :=
 match dr with
 |false=>a
 |true=>match fl with
  |false=>b
  |true=>c
inductive aaM(p a b:Prop):Prop where
 |mk:(p->a)->b->aaM p a b
inductive aiC(o:Option (List Bool))(yes:List Bool->Prop)(no:Prop):Prop where
 |mk:(∀ l,o=some l->yes l)->(o=none->no)->aiC o yes no
def V.seq(v:V)(K:V->Prop):Prop :=
 match v with
 | .int n=>K (.int n)
 | .bool b=>K (.bool b)
 | .u8 n=>K (.u8 n)
 | .str s=>K (.str s)
 | .dat d=>K (.dat d)
 | .agg l=>K (.agg l)
 | .row k f r=>K (.row k f r)
 | .Fp k f l=>K (.Fp k f l)
 | .ref k v=>K (.ref k v)
 | .own i=>K (.own i)
 | .inn i=>K (.inn i)
 | .pin i j o=>K (.pin i j o)
 | .ptr i j o=>K (.ptr i j o)
 | .pU i a b=>K (.pU i a b)
 | .fn f l=>K (.fn f l)
 | .dQ l=>K (.dQ l)
 | .cnd b v=>K (.cnd b v)
 | .raw t=>K (.raw t)
theorem V.seq_eq(v:V)(K:V->Prop):v.seq K=K v:=by cases v<;>rfl
def iP(d:Option Nat)(v:V)(m:Fm):Fm :=
 match d with
 |some d=>(d,v)::m
 |none=>m
def sK:Option Bool->V->V
 |none,v=>v
 |some b,.cnd c v=>.cnd (b&&c) v
 |some b,v=>.cnd b v
theorem Je(v:V):(sK (some true) v).aH=v.aH:=by cases v<;>rfl
theorem WG(v:V):(sK (some false) v).aH=T.un:=by cases v<;>rfl
def WH(m:Fm):Option (Nat×Bool)->Option (Option Bool)
 |none=>some none
 |some (g,w)=>match m.get g with
  |some (.bool b)=>some (some (bif w then b else !b))
  |some (.cnd c (.bool b))=>some (some (c&&(bif w then b else !b)))
  |_=>none
def ltX(nx:Nat)(m:Fm):List X->Bool
 |[]=>true
 |x::r=>(match Dn m x with|some v=>T.lt nx v.aH|none=>false)&&ltX nx m r
def abW(nx:Nat)(m:Fm):oN->Bool
 | .st _ x _=>match Dn m x with|some v=>T.newer nx v.aH|none=>false
 | .app _ _ _ x _=>match Dn m x with|some v=>T.newer nx v.aH|none=>false
 | .VK _ _ _=>false
 | .call _ _=>true
 | .jc _ _=>true
 |op=>ltX nx m op.xs
def aek(i:Nat)(m:Fm):List X->Bool
 |[]=>true
 |x::r=>(match Dn m x with|some v=>T.nid i v.aH|none=>false)&&aek i m r
def neB(m:Fm)(xs:List X):List Nat->Bool
 |[]=>true
 |d::r=>(bif Nat.blt d 1000000 then(match m.get d with|some (.ptr i _ _)=>aek i m xs|_=>false)
   else bif Nat.beq d 1000000 then ltX 10000 m xs else(match xs with|x::_=>(match Dn m x with|some v=>T.newer 10000 v.aH|none=>false)|[]=>false))&&neB m xs r
def G7(nx:Nat)(o:aJ)(m:Fm):Bool:=(!o.fl||abW nx m o.op)&&neB m o.op.xs o.ne
def isZero:V->Bool
 | .int (.ofNat 0)=>true
 |_=>false
def aaH(n:Nat):T->Option Rw
 | .lit (.int .i64 z)=>some (.ints (List.replicate n z))
 | .lit (.bool z)=>some (.bools (List.replicate n z))
 | .lit (.string z)=>some (.strs (List.replicate n z.data.toList))
 |_=>none
def Rw.set(j:Nat)(v:V)(r:Rw):Option Rw :=
 match r,v with
 | .ints l,.int n=>some (.ints (l.set j n))
 | .bools l,.bool n=>some (.bools (l.set j n))
 | .strs l,.str n=>some (.strs (l.set j n))
 | .rules l,.dat (.rule n)=>some (.rules (l.set j n))
 | .clauses l,.dat (.clause n)=>some (.clauses (l.set j n))
 | .elems l,.dat (.elem n)=>some (.elems (l.set j n))
 | .bI l,.row 0 false (.ints n)=>some (.bI (l.set j n))
 | .oz l,.row 0 false (.bools n)=>some (.oz (l.set j n))
 | .oC l,.row 0 false (.bI n)=>some (.oC (l.set j n))
 |_,_=>none
def agE(h:Hz)(k:Nat):V->Option (Rw×List V)
 | .row k' _ r=>dX (kOk k k' r) (some (r,[]))
 | .Fp k' _ l=>dX (Nat.beq k' k) (some (.nil,l))
 | .own o=>match h.get o with
  |some (.row _ ko r x)=>dX (Nat.beq ko k) (some (r,x))
  |_=>none
 |_=>none
def agF(r:Rw)(x:List V)(r':Rw)(x':List V):Option (Rw×List V) :=
 match x,r' with
 |[],r'=>match r.app r' with|some w=>some (w,x')|none=>none
 |x,.nil=>some (r,x++x')
 |_,_=>none
def jK(r:Rw)(x:List V):Nat :=
 match x with
 |[]=>r.len
 |x=>r.len+x.length
def jy(bytes:Nat)(a b:Nat):Prop:=(a+b)*bytes<=140737488355328/\a+b<=1152921504606846976
def setCells(v:V)(off:Nat)(u:V):Option V :=
 match v.cells,u.cells with
 |some l,some c=>some (.agg (l.take off++c++l.drop (off+c.length)))
 |_,_=>none
def QK:List V->(List V->Prop)->Prop
 |[],K=>K []
 |v::r,K=>QK r fun r'=>K (v::r')
def V.force(v:V)(K:V->Prop):Prop :=
 match v with
 | .agg l=>QK l fun l=>K (.agg l)
 |v=>K v
theorem Zr: ∀ {l:List V} {K:List V->Prop},QK l K=K l:=by
 intro l;induction l with
 |nil=>intro K; rfl
 |cons v r ih=>intro K; show QK r (fun r'=>K (v::r'))=_; rw[ih]
theorem V.force_eq(v:V)(K:V->Prop):v.force K=K v:=by
 cases v<;>first|rfl|exact Zr
structure ael(c p a b:Prop):Prop where
 ok:(c\/b)/\p/\a
theorem ael.one{c p a b:Prop}(h:c/\p)(k:a):ael c p a b:=⟨.inl h.1,h.2,k⟩
structure AtZ(y:List V)(j:Nat)(K:V->Prop):Prop where
 ok: ∃ v,y[j]? =some v/\K v
structure Pg(h:Hz)(i:Nat)(K:Nat->Rw->Prop):Prop where
 ok: ∃ ty k r,h.get i=some (.row ty k r [])/\K k r
structure Oc(h:Hz)(i j k:Nat)(v:V)(K:Hz->Prop):Prop where
 ok: ∃ ty r r' h',h.get i=some (.row ty k r [])/\r.set j v=some r'/\r.rng j/\h'.ay=upd h.ay i (some (OV.row ty k r' []).au)/\K h'
structure MS(h:Hz)(i ty k:Nat)(K:Rw->Hz->Prop):Prop where
 ok: ∃ r h',h.get i=some (.row ty k r [])/\h'.ay=upd h.ay i none/\K r h'
def aem(dr:Bool)(d:Option Nat)(n:Nat)(m:Fm)(h:Hz)(K:Fm->Hz->Prop):oN->Prop
 | .box ty k x=>match Dn m x with
  |some v=>match v.bare with
   |(v,s)=>bif Gp k [v]&&v.lC h&&AO k then s.vc none (K (iP d (.ptr n 0 0) m) ((n,some (.box ty k v))::h)) else False
  |none=>False
 | .al ty k z=>bif z.kd==k&&z.lC h.ay&&z.free&&AO k then K (iP d (.ptr n 0 0) m) ((n,some (.box ty k (EL z)))::h) else False
 | .make ty k bytes z x y=>match Dn m x,Dn m y with
  |some (.int a),some (.int b)=>bif z.kd==k&&z.lC h.ay&&z.free&&AO k then
    (match (bif isZero (.int a) then some .nil else aaH a.toNat z) with
    |some r=>VC (0<=a/\a<=b/\b*bytes<=140737488355328/\b<=1152921504606846976) (K (iP d (.own n) m) ((n,some (.row ty k r []))::h))
    |none=>VC (0<=a/\a<=b/\b*bytes<=140737488355328/\b<=1152921504606846976) (K (iP d (.own n) m) ((n,some (.gen ty k (List.replicate a.toNat (EL z))))::h))) else False
  |_,_=>False
 | .st k x v=>match Dn m x,Dn m v with
  |some (.ptr i j off),some v=>match v.bare with
   |(v,s)=>bif Gp k [v]&&v.lC h then
    (match h.get i with
    |some (.box ty ko w)=>bif Nat.beq j 0 then
      (bif Nat.beq off 0&&Nat.beq ko k then s.vc none (K m ((i,some (.box ty ko v))::h))
      else bif !(Nat.beq ko 0)&&qH (bn ko) off k then(match setCells w off v with
       |some w'=>w'.force fun w'=>s.vc none (K m ((i,some (.box ty ko w'))::h))
       |none=>False) else False) else False
    |some (.row ty ko r [])=>bif Nat.beq off 0&&Nat.beq ko k then(match r.set j v with
      |some r'=>s.vc none (VC (r.rng j) (K m ((i,some (.row ty ko r' []))::h)))
      |none=>s.vc none (VC (r.rng j) (K m ((i,some (.gen ty ko (r.vs.set j v)))::h)))) else False
    |some (.gen ty ko y)=>bif Nat.beq off 0&&Nat.beq ko k then s.vc none (VC (j<y.length) (K m ((i,some (.gen ty ko (y.set j v)))::h))) else False
    |_=>False) else False
  |some x,some v=>(match x.bare with
   |(.pin i j off,s0)=>match v.bare with
    |(v,s)=>bif Gp k [v]&&v.lC h&&Nat.beq off 0 then(s0.and s).vc none (Oc h i j k v fun h'=>K m h') else False
   |_=>False)
  |_,_=>False
 | .ld k x=>match Dn m x with
  |some v=>(match v.bare with
   |(.ptr i j off,s)=>(match h.get i with
    |some (.gen _ ko y)=>bif Nat.beq off 0&&Nat.beq ko k then s.vc none (AtZ y j fun v=>v.seq fun v=>K (iP d v m) h) else False
    |_=>False)
   |(.pin i j off,s)=>s.vc none (Pg h i fun ko r=>match ldR k j off ko r with
    |some (v,s')=>s'.vc none (v.seq fun v=>K (iP d v m) h)
    |none=>False)
   |_=>False)
  |none=>False
 | .ia k x i=>match Dn m x,Dn m i with
  |some v,some w=>(match v.bare,w.bare with
   |(.inn o,s),(.int n,s')=>(s.and s').vc none (Pg h o fun ko r=>bif Nat.beq ko k then VC (r.rng n) (K (iP d (.pin o n.toNat 0) m) h) else False)
   |_,_=>False)
  |_,_=>False
 | .len str x=>match Dn m x with
  |some v=>(match v.bare with
   |(.inn o,s)=>s.vc none (Pg h o fun ko r=>bif !str&& !(Nat.beq ko iM) then r.lenV.seq fun v=>K (iP d v m) h else False)
   |_=>False)
  |none=>False
 | .app ty k bytes x y=>match Dn m x,Dn m y with
  |some x,some y=>match agE h k y with
   |some (r',x')=>(match x with
    | .row _ true .nil=>VC (jy bytes 0 (jK r' x')) (K (iP d (.own n) m) ((n,some (.row ty k r' x'))::h))
    | .row k' true r=>bif Nat.beq k' k then(match r.app r' with
     |some w=>ael (r.len=0\/0<jK r' x') (jy bytes r.len (jK r' x')) (K (iP d (.own n) m) ((n,some (.row ty k w x'))::h)) (dr=false/\K (iP d (.row k' true r) m) h)
     |none=>False) else False
    | .own i=>(match h.get i with
     |some (.row ty' ko r x)=>bif Nat.beq ko k&&Nat.beq ty' ty then(match agF r x r' x' with
      |some (w,z)=>VC (jy bytes (jK r x) (jK r' x')) (K (iP d (.own n) m) ((n,some (.row ty k w z))::(i,none)::h))
      |none=>False) else False
     |some (.gen ty' ko y)=>bif Nat.beq ko k&&Nat.beq ty' ty then VC (jy bytes y.length (jK r' x')) (K (iP d (.own n) m) ((n,some (.gen ty k (y++(r'.vs++x'))))::(i,none)::h)) else False
     |_=>False)
    | .inn i=>MS h i ty k fun r h'=>match r.app r' with
     |some w=>VC (jy bytes r.len (jK r' x')) (K (iP d (.own n) m) ((n,some (.row ty k w x'))::h'))
     |none=>False
    |_=>False)
   |none=>False
  |_,_=>False
 | .VK k z x=>match Dn m x with
  |some (.pU i lo hi)=>match h.get i with
   |some (.row ty ko r [])=>bif Nat.beq ko k&&z.kd==k&&z.lC h.ay&&z.free then
     VC (lo<=hi/\hi=r.len) (match d with
      |none=>K m ((i,some (.row ty ko (r.take lo) (List.replicate (hi-lo) (EL z))))::h)
      |some _=>K (iP d (.raw T.un) m) ((i,some (.row ty ko (r.take lo) (List.replicate (hi-lo) (EL z))))::h)) else False
   |_=>False
  |_=>False
 | .BR ty k z nn ps=>match Dp m (ps.map fun p=>p.2) with
  |some (vs,s)=>match abM nn ps vs (List.replicate nn (EL z)) with
   |some l=>bif (z.kd==k)&&z.free&&Gp k vs&&EM h vs&&Nat.ble (nn*bn k) 16777216&&AO k then s.vc none (K (iP d (.own n) m) ((n,some (.row ty k .nil l))::h)) else False
   |none=>False
  |none=>False
 | .BD x=>match Dn m x with
  |some (.row _ _ r)=>aaM (r.len=0) (K (iP d (.bool true) m) h) (K (iP d (.bool false) m) h)
  |some (.own i)=>match h.get i with
   |some (.row _ ko r [])=>bif Nat.beq ko iM then False else aaM (r.len=0) (K (iP d (.bool true) m) h) (K (iP d (.bool false) m) h)
   |_=>False
  |_=>False
 |_=>False
def phZ:oN->V
 | .not _=>.bool false
 |_=>.int 0
def agG(P:Program)(dr:Bool)(nx n:Nat)(o:aJ)(KK:Nat->Fm->Hz->Prop)(m:Fm)(h:Hz):Prop :=
 match WH m o.g with
 |none=>False
 |some g=>bif G7 nx o m then
   (match o.op with
   | .call f xs=>(match Dp m xs with
    |some (l,s)=>s.vc g (match g with
     |none=>Fv dr o.fl (ah P false none f l h n (fun v h'=>v.seq fun v=>KK 0 (iP o.d v m) h') (fun k v h'=>v.seq fun v=>KK k (iP o.d v m) h')) (ah P true none f l h n (fun v h'=>v.seq fun v=>KK 0 (iP o.d v m) h') (fun _ _ _=>False)) (ah P false none f l h n (fun v h'=>v.seq fun v=>KK 0 (iP o.d v m) h') (fun _ _ _=>False))
     |some b=>Fv dr o.fl (ah P false (some b) f l h n (fun v h'=>v.seq fun v=>KK 0 (iP o.d (sK (some b) v) m) h') (fun _ _ _=>False)) (ah P true (some b) f l h n (fun v h'=>v.seq fun v=>KK 0 (iP o.d (sK (some b) v) m) h') (fun _ _ _=>False)) (ah P false (some b) f l h n (fun v h'=>v.seq fun v=>KK 0 (iP o.d (sK (some b) v) m) h') (fun _ _ _=>False)))
    |none=>False)
   | .jc x xs=>(match Dn m x,Dp m xs with
    |some v,some (l,s)=>(match v.bare with
     |(.fn f cap,s0)=>(s0.and s).vc g (bif Nat.blt f 4096 then Fv dr o.fl (ah P false g f (l++cap) h n (fun v h'=>v.seq fun v=>KK 0 (iP o.d (sK g v) m) h') (fun _ _ _=>False)) (ah P true g f (l++cap) h n (fun v h'=>v.seq fun v=>KK 0 (iP o.d (sK g v) m) h') (fun _ _ _=>False)) (ah P false g f (l++cap) h n (fun v h'=>v.seq fun v=>KK 0 (iP o.d (sK g v) m) h') (fun _ _ _=>False)) else bif Nat.blt f 8192 then Fv dr o.fl (ah P false g (f % 4096) (.agg cap::l) h n (fun v h'=>v.seq fun v=>KK 0 (iP o.d (sK g v) m) h') (fun _ _ _=>False)) (ah P true g (f % 4096) (.agg cap::l) h n (fun v h'=>v.seq fun v=>KK 0 (iP o.d (sK g v) m) h') (fun _ _ _=>False)) (ah P false g (f % 4096) (.agg cap::l) h n (fun v h'=>v.seq fun v=>KK 0 (iP o.d (sK g v) m) h') (fun _ _ _=>False)) else aiB dr g (ahK P f cap l h n (fun v h'=>v.seq fun v=>KK 0 (iP o.d v m) h')) (KK 0 (iP o.d (.cnd false (.int 0)) m) h))
     |_=>False)
    |_,_=>False)
   |op=>(match qz m h op with
    |some (v,s)=>s.vc g (v.seq fun v=>KK 0 (iP o.d (sK g v) m) h)
    |none=>(match g with
     |none=>aem dr o.d n m h (KK 0) op
     |some b=>Fork b (aem dr o.d n m h (KK 0) op) (KK 0 (iP o.d (.cnd false (phZ op)) m) h))))
   else False
def adZ(P:Program)(nx n:Nat)(o:aJ)(KK:Nat->Fm->Hz->Prop)(m:Fm)(h:Hz):Prop :=
 match o.op,o.g with
 | .call f xs,none=>bif o.fl&&G7 nx o m then
   (match Dp m xs with
   |some (l,s)=>s.vc none (ah P true none f l h n (fun v h'=>v.seq fun v=>KK 0 (iP o.d v m) h') (fun _ v h'=>v.seq fun v=>KK 0 (iP o.d v m) h'))
   |none=>False)
   else False
 |_,_=>False
def arZ(P:Program)(nx n:Nat)(o:aJ)(KK:Nat->Fm->Hz->Prop)(m:Fm)(h:Hz):Prop :=
 match o.op,o.g with
 | .call f xs,none=>bif o.fl&&G7 nx o m then
   (match Dp m xs with
   |some (l,s)=>s.vc none (ahJ P f l h n (fun v h'=>v.seq fun v=>KK 0 (iP o.d v m) h'))
   |none=>False)
   else False
 |_,_=>False
def opZ(P:Program)(dr:Bool)(nx n:Nat)(o:aJ)(KK:Nat->Fm->Hz->Prop)(m:Fm)(h:Hz):Prop :=
 match o.ar with
 |true=>arZ P nx n o KK m h
 |false=>match o.ad with
 |true=>adZ P nx n o KK m h
 |false=>agG P dr nx n o KK m h
def TU(P:Program)(dr:Bool)(ml:Nat)(nx:Nat)(K:Fm->Hz->Nat->Prop):List aJ->Nat->Fm->Hz->Prop
 |[],_,m,h=>K m h (nx+ml)
 |o::r,i,m,h=>opZ P dr nx (nx+i) o (fun k=>TU P dr ml (nx+k) K r (i+1)) m h
abbrev Qz:=rP->Fm->Hz->Nat->Prop
def Lift(N pn:Nat)(Q:Qz)(e:rP)(s:AS):Prop:= ∃ m h,s.fr.length=N/\Rp m s.fr/\s.hp=h.ay/\s.pin=pn/\Q e m h s.nx
structure aA(P:Program)(N pn:Nat)(b:dZ)(Q:Qz)(m:Fm)(h:Hz)(nx:Nat):Prop where
 ok: ∀ fr,fr.length=N->Rp m fr->BG (aw P b) (Lift N pn Q) ⟨fr,h.ay,nx,pn⟩
def az(P:Program)(N pn:Nat):dZ->Qz->Fm->Hz->Nat->Prop
 | .skip,Q,m,h,nx=>Q .normal m h nx
 | .reg dr ops,Q,m,h,nx=>TU P dr ops.length nx (fun m h nx=>Q .normal m h nx) ops 0 m h
 | .seq a b,Q,m,h,nx=>az P N pn a (fun e m h nx=>match e with| .normal=>az P N pn b Q m h nx|e=>Q e m h nx) m h nx
 | .cond c a b,Q,m,h,nx =>
  match Dn m c with
  |some (.bool t)=>Fork t (az P N pn a Q m h nx) (az P N pn b Q m h nx)
  |_=>False
 | .blk id b,Q,m,h,nx=>az P N pn b (fun e m h nx=>match e with| .exit j=>(bif Nat.beq j id then Q .normal m h nx else Q (.exit j) m h nx)|e=>Q e m h nx) m h nx
 | .exit id,Q,m,h,nx=>Q (.exit id) m h nx
 | .ret,Q,m,h,nx=>Q .ret m h nx
 | .loop b,Q,m,h,nx=>aA P N pn b Q m h nx
def QL(N:Nat):List aJ->Bool
 |[]=>true
 |o::r=>(match o.d with|some d=>Nat.blt d N|none=>true)&&QL N r
def rX(N:Nat):dZ->Bool
 | .skip=>true
 | .reg _ ops=>QL N ops
 | .seq a b=>rX N a&&rX N b
 | .cond _ a b=>rX N a&&rX N b
 | .blk _ b=>rX N b
 | .exit _=>true
 | .ret=>true
 | .loop b=>rX N b
section
variable {P:Program} {m:Fm} {h:Hz}
theorem dG{i:Nat}{o:Option OV}:Hz.ay ((i,o)::h)=upd h.ay i (o.map OV.au):=by
 funext j;simp only[Hz.ay,Hz.get,upd];by_cases e:j=i
 ·subst e; simp
 ·have:Nat.beq i j=false:=by
   cases hb:Nat.beq i j with
   |false=>rfl
   |true=>exact absurd (fE hb).symm e
  simp[this,e]
theorem Rp.put{fr:List T}(R:Rp m fr){d:Option Nat}{v:V}(hd: ∀ i,d=some i->i<fr.length){s:AS}(hs:s.fr=fr):Rp (iP d v m) (s.put d v.aH).fr:=by
 subst hs;cases d with
 |none=>exact R
 |some d =>
  intro i u hu;simp only[iP,Fm.get] at hu;show(s.fr.set d v.aH)[i]? =_;cases hb:Nat.beq d i with
  |true =>
   rw[hb] at hu; simp at hu; subst hu;have:=fE hb; subst this;rw[List.getElem?_set_self (hd d rfl)]
  |false =>
   rw[hb] at hu;have hne:d≠i:=cP hb;rw[cq hne];exact R i u hu
theorem XW{s:AS}{d:Option Nat}{t:T}:(s.put d t).fr.length=s.fr.length:=by cases d<;>simp[AS.put]
theorem lD{g:Option Bool}{k:Prop}{s:Sd}(q:s.vc g k):((g=none\/g=some true)->s.holds)/\k:=by
 unfold Sd.vc at q;split at q
 ·exact⟨fun _=>trivial,q⟩
 ·split at q
  ·obtain⟨a,b⟩:=q; exact⟨fun _=>a,b⟩
  ·obtain⟨a,b⟩:=q; exact⟨fun hg=>a (by rcases hg with e|e<;>cases e; rfl),b⟩
theorem Zt{s:AS}(R:Rp m s.fr){g:Option (Nat×Bool)}{g':Option Bool}(q:WH m g=some g'):(gv g s=some true/\(g'=none\/g'=some true))\/(gv g s=some false/\g'=some false):=by
 unfold WH at q;split at q
 ·cases q; exact .inl ⟨rfl,.inl rfl⟩
 ·rename_i d w;split at q
  ·rename_i b e;cases q;have hg:s.fr.getD d .any= .lit (.bool b):=R.getD e;simp only[gv,hg];cases w<;>cases b<;>simp
  ·rename_i c b e;cases q;have hg:s.fr.getD d .any=bif c then .lit (.bool b) else T.un:=R.getD e;cases c with
   |true=>simp only[gv,hg,bS]; cases w<;>cases b<;>simp
   |false=>simp only[gv,hg,bO]; simp
  ·cases q
theorem XY{s:AS}(R:Rp m s.fr){nx:Nat}: ∀ {xs:List X},ltX nx m xs=true->(xs.all fun x=>T.lt nx (s.ev x))=true:=by
 intro xs;induction xs with
 |nil=>intro _; rfl
 |cons x r ih =>
  intro q;simp only[ltX,aD] at q;simp only[gR,aD];refine⟨?_,ih q.2⟩;have:=q.1;split at this
  ·rename_i v e; rw[R.ev e]; exact this
  ·cases this
theorem abX{s:AS}(R:Rp m s.fr){i:Nat}: ∀ {xs:List X},aek i m xs=true->(xs.all fun x=>T.nid i (s.ev x))=true:=by
 intro xs;induction xs with
 |nil=>intro _; rfl
 |cons x r ih =>
  intro q;simp only[aek,aD] at q;simp only[gR,aD];refine⟨?_,ih q.2⟩;have:=q.1;split at this
  ·rename_i v e; rw[R.ev e]; exact this
  ·cases this
theorem agH{s:AS}(R:Rp m s.fr){xs:List X}: ∀ {l:List Nat},neB m xs l=true->IL s xs l=true:=by
 intro l;induction l with
 |nil=>intro _; rfl
 |cons d r ih =>
  intro q;simp only[neB,aD] at q;simp only[IL,aD];refine⟨?_,ih q.2⟩;have:=q.1;cases h1:Nat.blt d 1000000 with
  |true =>
   rw[h1,bS] at this;rw[bS];split at this
   ·rename_i i j o e;have hg:s.fr.getD d .any= .ptr i j o:=R.getD e;simp only[AS.obj,hg];exact abX R this
   ·cases this
  |false =>
   rw[h1,bO] at this;rw[bO];cases h2:Nat.beq d 1000000 with
   |true=>rw[h2,bS] at this; rw[bS]; exact XY R this
   |false =>
    rw[h2,bO] at this;rw[bO];cases xs with
    |nil=>cases this
    |cons x l =>
     simp only at this ⊢;split at this
     ·rename_i v e; rw[R.ev e]; exact this
     ·cases this
theorem MV{s:AS}(R:Rp m s.fr){o:aJ}(q:G7 s.nx o m=true):jE o s:=by
 unfold G7 at q;simp only[aD,cS,bo] at q;refine⟨fun hf=>?_,agH R q.2⟩;have h1:abW s.nx m o.op=true:=by
  rcases q.1 with h|h
  ·rw[hf] at h; cases h
  ·exact h
 unfold abW at h1;split at h1
 ·rename_i k x v e;rw[e];split at h1
  ·rename_i u hu; simp only; rw[R.ev hu]; exact h1
  ·cases h1
 ·rename_i e;rw[e];split at h1
  ·rename_i u hu; simp only; rw[R.ev hu]; exact h1
  ·cases h1
 ·cases h1
 ·rename_i e; rw[e]
 ·rename_i e; rw[e]
 ·rename_i op h2 h3 h4 h5 h6;have:=XY R h1;split
  ·rename_i e; exact absurd e (h2 _ _ _)
  ·rename_i e; exact absurd e (h3 _ _ _ _ _)
  ·rename_i e; exact absurd e (h4 _ _ _)
  ·rfl
  ·rfl
  ·exact this
def Kz(N pn nx:Nat)(K:Fm->Hz->Prop)(s:AS):Prop:= ∃ m h,s.fr.length=N/\Rp m s.fr/\s.hp=h.ay/\s.pin=pn/\s.nx=nx/\K m h
theorem TV{k:Nat}{v:V}(q:Gp k [v]=true):v.aH.kd=k:=V.WA (KE q v (by simp))
theorem aen{n:Nat}{z:T}{r:Rw}(q:aaH n z=some r):r.aU=List.replicate n z:=by
 unfold aaH at q;split at q<;>cases q
 ·simp[Rw.aU]
 ·simp[Rw.aU]
 ·simp only[Rw.aU,fh]; rw[afA]
theorem Rw.XZ{j:Nat}{v:V}{r w:Rw}(q:r.set j v=some w):w.aU=r.aU.set j v.aH:=by
 unfold Rw.set at q;split at q<;>first|(cases q; done)|(cases q; simp[Rw.aU,V.aH,Dat.aH,List.map_set])
theorem aeo{k:Nat}{y:V}{r:Rw}{x:List V}(q:agE h k y=some (r,x)):VN h.ay k y.aH= .list (r.aU++V.aU x):=by
 unfold agE at q;split at q
 ·rename_i k' f w;obtain⟨g,q⟩:=aV q; cases q;simp only[V.aH,VN,V.aU,cN];rcases Jd g with rfl|e
  ·cases r.aU<;>simp
  ·rw[e]
 ·rename_i k' f l;obtain⟨g,q⟩:=aV q; cases q;have:=fE g; subst this;simp only[V.aH,VN,Rw.aU,gH];cases hx:V.aU x<;>simp
 ·split at q
  ·rename_i o _ ty ko w z e;obtain⟨g,q⟩:=aV q; cases q;have:=fE g; subst this;simp[V.aH,VN,aO e,OV.au]
  ·cases q
 ·cases q
theorem zV{r:Rw}{x:List V}:jK r x=(r.aU++V.aU x).length:=by
 unfold jK;split
 ·simp[V.aU,Rw.fD]
 ·simp[dW,Rw.fD]
theorem aep{r r' w:Rw}{x x' z:List V}(q:agF r x r' x'=some (w,z)):w.aU++V.aU z=(r.aU++V.aU x)++(r'.aU++V.aU x'):=by
 unfold agF at q;split at q
 ·split at q
  ·rename_i w' e; cases q; rw[Rw.KD e]; simp[V.aU]
  ·cases q
 ·cases q; simp[yc,Rw.aU]
 ·cases q
theorem Ph{N pn n nx:Nat}{d:Option Nat}{op:oN}{K:Fm->Hz->Prop}{s:AS}{dr:Bool}(hl:s.fr.length=N)(hd: ∀ i,d=some i->i<N)(R:Rp m s.fr)(hh:s.hp=h.ay)(hp:s.pin=pn)(hn:s.nx=nx)(q:aem dr d n m h K op) :
  oP P dr n d op (Kz N pn nx K) s:=by
 have hd': ∀ i,d=some i->i<s.fr.length:=fun i e=>by rw[hl]; exact hd i e
 have fin: ∀ {v:V} {h':Hz},K (iP d v m) h'->Kz N pn nx K {(s.put d v.aH) with hp:=h'.ay}:=fun {v h'} hk =>
  ⟨_,h',by show(s.put d v.aH).fr.length=N; rw[XW,hl],R.put (v:=v) hd' rfl,rfl,by show(s.put d v.aH).pin=pn; cases d<;>exact hp,by show(s.put d v.aH).nx=nx; cases d<;>exact hn,hk⟩
 have aer: ∀ {op:oN} {v:V},bH op=true->Ok s op v->K (iP d v m) h->oP P dr n d op (Kz N pn nx K) s:=fun {op v} hq ho hk=>by
  rw[bG hq];refine⟨ho.1,?_⟩;rw[ho.2];have:=fin hk;rw[<- hh] at this;rw[show({(s.put d v.aH) with hp:=s.hp}:AS)=s.put d v.aH by cases d<;>rfl] at this;exact this
 unfold aem at q;split at q
 ·rename_i ty k x;split at q
  ·rename_i v e;split at q;rename_i v' s' hb;cases g:Gp k [v']&&v'.lC h&&AO k with
   |false=>rw[g] at q; exact q.elim
   |true =>
    rw[g] at q;simp only[aD] at g;simp only[bS] at q;obtain⟨hs,hk⟩:=lD q;have ev:s.ev x=v'.aH:=by rw[R.ev e]; exact eH hb (hs (.inl rfl))
    simp only[oP];rw[ev,TV g.1.1,hh,V.vG g.1.2,g.2];refine⟨by simp,?_⟩;have:=fin hk;rw[dG] at this;exact this
  ·exact q.elim
 ·rename_i ty k z;cases g:z.kd==k&&z.lC h.ay&&z.free&&AO k with
  |false=>rw[g] at q; exact q.elim
  |true =>
   rw[g] at q;simp only[oP];rw[hh,g];refine⟨rfl,?_⟩;have:=fin q;rw[dG] at this;simp only[bx,OV.au,AY] at this;exact this
 ·rename_i ty k bytes z x y;split at q
  ·rename_i a b e1 e2;cases g:z.kd==k&&z.lC h.ay&&z.free&&AO k with
   |false=>rw[g] at q; exact q.elim
   |true =>
    rw[g] at q;simp only[bS] at q;split at q
    ·rename_i r er;obtain⟨c,hk⟩:=q;simp only[oP];rw[R.ev e1,R.ev e2];simp only[V.aH];rw[hh,g];refine⟨rfl,c,?_⟩;have:=fin hk;rw[dG] at this;simp only[bx,OV.au,V.aU,cN] at this;have hr:r.aU=List.replicate a.toNat z:=by
      cases hz:isZero (.int a) with
      |false=>rw[hz] at er; exact aen er
      |true =>
       rw[hz] at er; cases er;unfold isZero at hz;split at hz
       ·rename_i e; cases e; rfl
       ·cases hz
     rw[hr] at this;exact this
    ·obtain⟨c,hk⟩:=q;simp only[oP];rw[R.ev e1,R.ev e2];simp only[V.aH];rw[hh,g];refine⟨rfl,c,?_⟩;have:=fin hk;rw[dG] at this;simp only[bx,OV.au] at this;rw[fH,fh,AY] at this;exact this
  ·exact q.elim
 ·rename_i k x v;split at q
  ·rename_i i j off v0 e1 e2;split at q;rename_i v' s' hb;cases g:Gp k [v']&&v'.lC h with
   |false=>rw[g] at q; exact q.elim
   |true =>
    rw[g] at q;simp only[aD] at g;simp only[bS] at q;have fin2: ∀ {h':Hz},K m h'->Kz N pn nx K {s with hp:=h'.ay}:=fun {h'} hk=>⟨m,h',hl,R,rfl,hp,hn,hk⟩
    have ex:s.ev x= .ptr i j off:=R.ev e1;simp only[oP];rw[ex];simp only;split at q
    ·rename_i ty ko w eo;rw[hh,aO eo];simp only[OV.au];cases hj:Nat.beq j 0 with
     |false=>rw[hj] at q; exact q.elim
     |true =>
      have:=fE hj; subst this;rw[hj] at q;simp only[bS] at q;cases hb2:(Nat.beq off 0&&Nat.beq ko k) with
      |true =>
       rw[hb2] at q;simp only[bS] at q;obtain⟨hs,hk⟩:=lD q;have ev:s.ev v=v'.aH:=by rw[R.ev e2]; exact eH hb (hs (.inl rfl))
       simp only[aD] at hb2;have f1:=fE hb2.1; have f2:=fE hb2.2; subst f1; subst f2;rw[ev,TV g.1,V.vG g.2];refine⟨by simp,by simp,by simp,?_⟩;have:=fin2 hk;rw[dG] at this;simp only[BEq.rfl,eZ,bS,fS];exact this
      |false =>
       rw[hb2] at q;simp only[bO] at q;cases hc:(!(Nat.beq ko 0)&&qH (bn ko) off k) with
       |false=>rw[hc] at q; exact q.elim
       |true =>
        rw[hc] at q;simp only[bS] at q;split at q
        ·rename_i w' hw;rw[V.force_eq] at q;obtain⟨hs,hk⟩:=lD q;have ev:s.ev v=v'.aH:=by rw[R.ev e2]; exact eH hb (hs (.inl rfl))
         have hb':(off==0&&ko==k)=false:=by
          rw[cC] at hb2 ⊢;rcases hb2 with hb2|hb2
          ·left; simpa using cP hb2
          ·right; simpa using cP hb2
         simp only[aD] at hc;rw[ev,TV g.1,V.vG g.2];refine⟨by simp,by simp,?_,?_⟩
         ·simp only[hb',cr,aD]; exact⟨aeh hc.1,hc.2⟩
         ·have:=fin2 hk;rw[dG] at this;simp only[hb',bO,fS,f7];have ew:w.aH.splice off v'.aH=w'.aH:=by
           unfold setCells at hw;split at hw
           ·rename_i l c f1 f2;cases hw;unfold T.splice;rw[V.Jb f1,V.Jb f2];simp only[V.aH,yc,MO,MP,dW]
           ·cases hw
          rw[ew];exact this
        ·exact q.elim
    ·rename_i ty ko r eo;rw[hh,aO eo];simp only[OV.au,V.aU,cN];cases hb2:(Nat.beq off 0&&Nat.beq ko k) with
     |false=>rw[hb2] at q; exact q.elim
     |true =>
      rw[hb2] at q;simp only[bS] at q;split at q
      ·rename_i r' hr;obtain⟨hs,hk0⟩:=lD q;obtain⟨abY,hk⟩:=hk0;have ev:s.ev v=v'.aH:=by rw[R.ev e2]; exact eH hb (hs (.inl rfl))
       simp only[aD] at hb2;have f1:=fE hb2.1; have f2:=fE hb2.2; subst f1; subst f2;rw[Rw.AZ] at abY;rw[ev,TV g.1,V.vG g.2];refine⟨by simp,by rw[Rw.fD]; omega,by simp,?_⟩;have:=fin2 hk;rw[dG] at this;simp only[bx,OV.au,V.aU,cN,Rw.XZ hr] at this;simp only[BEq.rfl,eZ,bS];exact this
      ·obtain⟨hs,hk0⟩:=lD q;obtain⟨abY,hk⟩:=hk0;have ev:s.ev v=v'.aH:=by rw[R.ev e2]; exact eH hb (hs (.inl rfl))
       simp only[aD] at hb2;have f1:=fE hb2.1; have f2:=fE hb2.2; subst f1; subst f2;rw[Rw.AZ] at abY;rw[ev,TV g.1,V.vG g.2];refine⟨by simp,by rw[Rw.fD]; omega,by simp,?_⟩;have:=fin2 hk;rw[dG] at this;simp only[bx,OV.au] at this;rw[fH,List.map_set,<- fH,Rw.abP] at this;simp only[BEq.rfl,eZ,bS];exact this
    ·rename_i ty ko y eo;rw[hh,aO eo];simp only[OV.au];cases hb2:(Nat.beq off 0&&Nat.beq ko k) with
     |false=>rw[hb2] at q; exact q.elim
     |true =>
      rw[hb2] at q;simp only[bS] at q;obtain⟨hs,hk0⟩:=lD q;obtain⟨abY,hk⟩:=hk0;have ev:s.ev v=v'.aH:=by rw[R.ev e2]; exact eH hb (hs (.inl rfl))
      simp only[aD] at hb2;have f1:=fE hb2.1; have f2:=fE hb2.2; subst f1; subst f2;rw[ev,TV g.1,V.vG g.2];refine⟨by simp,by rw[dW]; exact abY,by simp,?_⟩;have:=fin2 hk;rw[dG] at this;simp only[bx,OV.au] at this;rw[fH,List.map_set,<- fH] at this;simp only[BEq.rfl,eZ,bS];exact this
    ·exact q.elim
  ·rename_i x0 v0 _ e1 e2;split at q
   ·rename_i i j off s0 hb0;split at q;rename_i v' s' hb;cases g:Gp k [v']&&v'.lC h&&Nat.beq off 0 with
    |false=>rw[g] at q; exact q.elim
    |true =>
     rw[g] at q;simp only[aD] at g;simp only[bS] at q;obtain⟨hs,hk⟩:=lD q;have hs2:=Sd.qw.1 (hs (.inl rfl));have ex:s.ev x= .ptr i j off:=by rw[R.ev e1,eH hb0 hs2.1]; rfl
     have ev:s.ev v=v'.aH:=by rw[R.ev e2]; exact eH hb hs2.2
     have f1:=fE g.2; subst f1;obtain⟨ty,r,r',h',a1,a2,a3,a4,a5⟩:=hk.ok;rw[Rw.AZ] at a3;simp only[oP];rw[ex];simp only;rw[hh,aO a1];simp only[OV.au,V.aU,cN];rw[ev,TV g.1.1,V.vG g.1.2];refine⟨by simp,by rw[Rw.fD]; omega,by simp,?_⟩;simp only[BEq.rfl,eZ,bS];rw[<- Rw.XZ a2];refine⟨m,h',hl,R,?_,hp,hn,a5⟩;rw[a4]; simp only[OV.au,V.aU,cN]
   ·exact q.elim
  ·exact q.elim
 ·rename_i k x;split at q
  ·rename_i v0 e1;split at q
   ·rename_i i j off s0 hb0;split at q
    ·rename_i ty ko y eo;cases hb2:(Nat.beq off 0&&Nat.beq ko k) with
     |false=>rw[hb2] at q; exact q.elim
     |true =>
      rw[hb2] at q;simp only[bS] at q;obtain⟨hs,hk⟩:=lD q;have ex:s.ev x= .ptr i j off:=by rw[R.ev e1,eH hb0 (hs (.inl rfl))]; rfl
      simp only[aD] at hb2;have f1:=fE hb2.1; have f2:=fE hb2.2; subst f1; subst f2;obtain⟨v,hv,hk⟩:=hk.ok;rw[V.seq_eq] at hk;refine aer rfl ?_ hk;have hj:j<y.length:=by
       rcases db j y.length with h|h
       ·exact h
       ·rw[dT h] at hv; cases hv
      unfold Ok; simp only[qc,qt]; rw[ex];simp only[hh,aO eo,OV.au];simp only[BEq.rfl,eZ,Bool.true_or,bS,dW];exact⟨⟨hj,trivial⟩,yU hv⟩
    ·exact q.elim
   ·rename_i i j off s0 hb0;obtain⟨hs,hk⟩:=lD q;have ex:s.ev x=(V.ptr i j off).aH:=by rw[R.ev e1,eH hb0 (hs (.inl rfl))]; rfl
    obtain⟨ty,ko,r,eo,hk⟩:=hk.ok;split at hk
    ·rename_i v s' hq;obtain⟨hs',hk⟩:=lD hk;rw[V.seq_eq] at hk;exact aer rfl (WE hh (u:=.ptr i j off) (by simp only[ldZ,eo]; exact hq) (hs' (.inl rfl)) ex) hk
    ·exact hk.elim
   ·exact q.elim
  ·exact q.elim
 ·rename_i k x i;split at q
  ·rename_i v0 w0 e1 e2;split at q
   ·rename_i o s0 n0 s1 hb0 hb1;obtain⟨hs,hk⟩:=lD q;have hs2:=Sd.qw.1 (hs (.inl rfl));have ex:s.ev x=(V.own o).aH:=by rw[R.ev e1,eH hb0 hs2.1]; rfl
    have ei:s.ev i=(V.int n0).aH:=by rw[R.ev e2,eH hb1 hs2.2]
    obtain⟨ty,ko,r,eo,hk⟩:=hk.ok;cases hb2:Nat.beq ko k with
    |false=>rw[hb2] at hk; exact hk.elim
    |true =>
     rw[hb2] at hk;simp only[bS] at hk;obtain⟨hr,hk⟩:=hk;have hok:Ok s (.ia k x i) (.ptr o n0.toNat 0):=abS hh (u:=.own o) (v:=.int n0) (r:=.ptr o n0.toNat 0) (sd:=.yes (r.rng n0)) (by simp only[iaZ,eo,hb2,dX,bS]) hr ex ei;exact aer (v:=.pin o n0.toNat 0) rfl ⟨hok.1,hok.2⟩ hk
   ·exact q.elim
  ·exact q.elim
 ·rename_i str x;split at q
  ·rename_i v0 e1;split at q
   ·rename_i o s0 hb0;obtain⟨hs,hk⟩:=lD q;have ex:s.ev x=(V.own o).aH:=by rw[R.ev e1,eH hb0 (hs (.inl rfl))]; rfl
    obtain⟨ty,ko,r,eo,hk⟩:=hk.ok;cases hb2:(!str&& !(Nat.beq ko iM)) with
    |false=>rw[hb2] at hk; exact hk.elim
    |true =>
     rw[hb2] at hk;simp only[bS] at hk;rw[V.seq_eq] at hk;exact aer rfl (XT hh (u:=.own o) (r:=r.lenV) (sd:=.no) (by simp only[aee,eo,hb2,dX,bS]) ex) hk
   ·exact q.elim
  ·exact q.elim
 ·rename_i ty k bytes x y;split at q
  ·rename_i vx vy e1 e2;split at q
   ·rename_i r' x' es;simp only[oP];rw[R.ev e1,R.ev e2,hh,aeo es];simp only;split at q
    ·rename_i k';obtain⟨c,hk⟩:=q;have e0:(V.row k' true Rw.nil).aH= .sl k' true []:=rfl;rw[e0];unfold jy at c;rw[zV] at c;refine⟨.inr rfl,.inl (.inl rfl),by simpa using c.1,by simpa using c.2,?_⟩;have:=fin hk;rw[dG] at this;exact this
    ·rename_i k' r hnn;cases hb2:Nat.beq k' k with
     |false=>rw[hb2] at q; exact q.elim
     |true =>
      rw[hb2] at q;have:=fE hb2; subst this;simp only[bS] at q;split at q
      ·rename_i w hw;obtain⟨c1,c2,hk⟩:=q.ok;simp only[V.aH];unfold jy at c2;rw[zV] at c1 c2;refine⟨.inl trivial,?_,by rw[Rw.fD]; exact c2.1,by rw[Rw.fD]; exact c2.2,?_⟩
       ·rcases c1 with (c|c)|⟨c,hk2⟩
        ·left; left; exact ao (by rw[Rw.fD]; exact c)
        ·left; right; intro e; rw[e] at c; simp at c
        ·right;refine⟨c,?_⟩;have f1:=fin hk2;rw[<- hh] at f1;rw[show({(s.put d (V.row k' true r).aH) with hp:=s.hp}:AS)=s.put d (.sl k' true r.aU) by cases d<;>rfl] at f1;exact f1
       ·have:=fin hk;rw[dG] at this;simp only[bx,OV.au,Rw.KD hw,ax] at this;exact this
      ·exact q.elim
    ·rename_i i;split at q
     ·rename_i ty' ko r xx eo;cases hb2:(Nat.beq ko k&&Nat.beq ty' ty) with
      |false=>rw[hb2] at q; exact q.elim
      |true =>
       rw[hb2] at q;simp only[bS] at q;simp only[aD] at hb2;have f1:=fE hb2.1; have f2:=fE hb2.2; subst f1; subst f2;split at q
       ·rename_i w z hw;obtain⟨c,hk⟩:=q;simp only[V.aH,aO eo,OV.au];unfold jy at c;rw[zV,zV] at c;refine⟨by simp,c.1,c.2,?_⟩;have:=fin hk;rw[dG,dG] at this;simp only[bx,eO,OV.au,aep hw] at this;exact this
       ·exact q.elim
     ·rename_i ty' ko y eo;cases hb2:(Nat.beq ko k&&Nat.beq ty' ty) with
      |false=>rw[hb2] at q; exact q.elim
      |true =>
       rw[hb2] at q;simp only[bS] at q;simp only[aD] at hb2;have f1:=fE hb2.1; have f2:=fE hb2.2; subst f1; subst f2;obtain⟨c,hk⟩:=q;simp only[V.aH,aO eo,OV.au];unfold jy at c;rw[zV] at c;refine⟨by simp,by rw[dW]; exact c.1,by rw[dW]; exact c.2,?_⟩;have:=fin hk;rw[dG,dG] at this;simp only[bx,eO,OV.au,yc,Rw.abP] at this;exact this
     ·exact q.elim
    ·rename_i i;obtain⟨r,h',a1,a2,hk⟩:=q.ok;split at hk
     ·rename_i w hw;obtain⟨c,hk⟩:=hk;simp only[V.aH,aO a1,OV.au,V.aU,cN];unfold jy at c;rw[zV] at c;refine⟨by simp,by rw[Rw.fD]; exact c.1,by rw[Rw.fD]; exact c.2,?_⟩;have:=fin hk;rw[dG,a2] at this;simp only[bx,OV.au,Rw.KD hw,ax] at this;exact this
     ·exact hk.elim
    ·exact q.elim
   ·exact q.elim
  ·exact q.elim
 ·rename_i k z x;split at q
  ·rename_i i lo hi e;split at q
   ·rename_i ty ko r eo;cases g:(Nat.beq ko k&&z.kd==k&&z.lC h.ay&&z.free) with
    |false=>rw[g] at q; exact q.elim
    |true =>
     rw[g] at q;simp only[bS] at q;obtain⟨⟨c1,c2⟩,hk⟩:=q;simp only[aD] at g;obtain⟨⟨⟨g1,g2⟩,g3⟩,g4⟩:=g;have f1:=fE g1; subst f1;simp only[oP];rw[R.ev e];simp only[V.aH,hh,aO eo,OV.au];refine⟨by simp[g2,g3,g4],by simp[Rw.fD,c2,V.aU],?_⟩;have el:(r.take lo).aU++V.aU (List.replicate (hi-lo) (EL z))=List.take lo (r.aU++V.aU [])++List.replicate (hi-lo) z++List.drop hi (r.aU++V.aU []):=by
      rw[Rw.G6,fH,fh,AY];simp[V.aU,Rw.fD,c2]
     cases d with
     |none =>
      simp only at hk;refine⟨_,_,hl,R,?_,hp,hn,hk⟩;rw[dG];simp only[bx,OV.au,el]
     |some dd =>
      simp only at hk;have:=fin hk;rw[dG] at this;simp only[bx,OV.au,el] at this;exact this
   ·exact q.elim
  ·exact q.elim
 ·rename_i ty k z nn ps;split at q
  ·rename_i vs s' hb;split at q
   ·rename_i l hl;cases g:((z.kd==k)&&z.free&&Gp k vs&&EM h vs&&Nat.ble (nn*bn k) 16777216&&AO k) with
    |false=>rw[g] at q; exact q.elim
    |true =>
     rw[g] at q;simp only[bS] at q;obtain⟨hs,hk⟩:=lD q;have he:=tN R hb (hs (.inl rfl));have he':(ps.map fun p=>s.ev p.2)=V.aU vs:=by rw[<- he]; simp
     simp only[aD] at g;obtain⟨⟨⟨⟨⟨g1,g2⟩,g3⟩,g4⟩,g5⟩,g6⟩:=g;obtain⟨i1,i2⟩:=XU hl he' g3;have e:V.aU (List.replicate nn (EL z))=List.replicate nn z:=by rw[fH,fh,AY]
     rw[e] at i2;simp only[oP];rw[i1,i2,he',hh,Jc g4,g1,g2,g5,g6];refine⟨rfl,?_⟩;have:=fin hk;rw[dG] at this;simp only[bx,OV.au,Rw.aU,gH] at this;exact this
   ·exact q.elim
  ·exact q.elim
 ·rename_i x;split at q
  ·rename_i k' f r e;obtain⟨q1,q2⟩:=q;simp only[oP];rw[R.ev e];have f1:=fun hz=>fin (q1 hz)
   have f2:=fin q2;rw[<- hh] at f1 f2;refine⟨fun hl=>?_,?_⟩
   ·have:=f1 (by rw[<- Rw.fD]; exact dt List.length hl);rw[show({(s.put d (V.bool true).aH) with hp:=s.hp}:AS)=s.put d (.lit (.bool true)) by cases d<;>rfl] at this;exact this
   ·rw[show({(s.put d (V.bool false).aH) with hp:=s.hp}:AS)=s.put d (.lit (.bool false)) by cases d<;>rfl] at f2;exact f2
  ·rename_i i e;split at q
   ·rename_i ty ko r eo;cases hb:Nat.beq ko iM with
    |true=>rw[hb] at q; exact q.elim
    |false =>
     rw[hb] at q;obtain⟨q1,q2⟩:=q;simp only[oP];rw[R.ev e];have f1:=fun hz=>fin (q1 hz)
     have f2:=fin q2;rw[<- hh] at f1 f2;simp only[V.aH,hh,aO eo,OV.au];refine⟨fun hl=>?_,?_,cP hb⟩
     ·have:=f1 (by rw[<- Rw.fD]; simpa [V.aU] using dt List.length hl);rw[show({(s.put d (V.bool true).aH) with hp:=s.hp}:AS)=s.put d (.lit (.bool true)) by cases d<;>rfl] at this;exact this
     ·rw[show({(s.put d (V.bool false).aH) with hp:=s.hp}:AS)=s.put d (.lit (.bool false)) by cases d<;>rfl] at f2;exact f2
   ·exact q.elim
  ·exact q.elim
 ·exact q.elim
end
section
variable {P:Program} {m:Fm} {h:Hz}
theorem Kz.put{N pn nx:Nat}{K:Fm->Hz->Prop}{s:AS}{d:Option Nat}{v:V}{t:T}{h':Hz}(hl:s.fr.length=N)(hd: ∀ i,d=some i->i<N)(R:Rp m s.fr)(hp:s.pin=pn)(hn:s.nx=nx)(ht:t=v.aH)(hk:K (iP d v m) h') :
  Kz N pn nx K {(s.put d t) with hp:=h'.ay}:=by
 subst ht;exact⟨_,h',by show(s.put d v.aH).fr.length=N; rw[XW,hl],R.put (v:=v) (fun i e=>by rw[hl]; exact hd i e) rfl,rfl,by show(s.put d v.aH).pin=pn; cases d<;>exact hp,by show(s.put d v.aH).nx=nx; cases d<;>exact hn,hk⟩
theorem MW{N pn nx n:Nat}{K:Fm->Hz->Prop}{KW:Nat->Fm->Hz->Prop}{s:AS}{d:Option Nat}{dr:Bool}{g:Option Bool}{f:FuncId}{l:List V}(hl:s.fr.length=N)(hd: ∀ i,d=some i->i<N)(R:Rp m s.fr)(hh:s.hp=h.ay)(hp:s.pin=pn)(hn:s.nx=nx)
  (hg:g=none\/g=some true) (q:ah P dr g f l h n (fun v h'=>v.seq fun v=>K (iP d (sK g v) m) h') (fun k v h'=>v.seq fun v=>KW k (iP d v m) h')) (hq:dr=true-> ∀ (v:V) (h':Hz),¬ (v.seq fun v=>KW 0 (iP d v m) h')) :
  nM P dr n d f (V.aU l) (Kz N pn nx K) s\/(dr=false/\ ∃ k,jP P f (V.aU l) s.hp n k fun t hp=>Kz N pn (nx+k) (KW k) {(s.put d t) with hp:=hp,nx:=s.nx+k}):=by
 unfold nM;rw[hh];rcases q.ok with q|⟨rfl,rfl,k,q⟩|⟨_,hdr,_,⟨_,_,v,o,_,_,hk⟩,_⟩
 rotate_left
 rotate_left
 ·exact absurd hk (hq hdr _ _)
 rotate_left
 ·refine .inr ⟨rfl,k,q.mono ?_⟩;rintro t hp' ⟨v,h',rfl,rfl,hk⟩;rw[V.seq_eq] at hk;obtain⟨m',h'',a1,a2,a3,a4,_,a6⟩:=Kz.put (K:=KW k) hl hd R hp hn rfl hk;exact⟨m',h'',a1,a2,a3,a4,by show s.nx+k=nx+k; rw[hn],a6⟩
 left;rcases hg with rfl|rfl
 ·refine aP.mono q ?_;rintro t hp' ⟨v,h',e1,e2,e3,hk⟩;rw[V.seq_eq] at hk;subst e2;refine⟨fun e=>⟨by rw[(e3 e).1],(e3 e).2⟩,Kz.put (v:=v) hl hd R hp hn e1 hk⟩
 ·rcases q with ⟨v,c,hf,hk⟩|⟨hdr,c,_⟩
  rotate_left
  ·refine aP.mono (c rfl) ?_;rintro t hp' ⟨v,h',e1,e2,hk⟩;rw[V.seq_eq] at hk;subst e2;exact⟨fun e=>(by rw[hdr] at e; cases e),Kz.put (v:=sK (some true) v) hl hd R hp hn (e1.trans (Je v).symm) hk⟩
  rw[V.seq_eq] at hk;refine aP.mono (c rfl) ?_;rintro t hp' ⟨e1,e2⟩;subst e2;refine⟨fun _=>⟨rfl,by rw[e1]; exact V.o9 v hf⟩,Kz.put (v:=sK (some true) v) hl hd R hp hn (by rw[e1]; exact(Je v).symm) hk⟩
theorem yV{N pn nx n:Nat}{K:Fm->Hz->Prop}{s:AS}{d:Option Nat}{dr:Bool}{g:Option Bool}{f:FuncId}{l:List V}(hl:s.fr.length=N)(hd: ∀ i,d=some i->i<N)(R:Rp m s.fr)(hh:s.hp=h.ay)(hp:s.pin=pn)(hn:s.nx=nx)
  (hg:g=none\/g=some true) (q:ah P dr g f l h n (fun v h'=>v.seq fun v=>K (iP d (sK g v) m) h') (fun _ _ _=>False)):nM P dr n d f (V.aU l) (Kz N pn nx K) s:=by
 rcases MW (KW:=fun _ _ _=>False) hl hd R hh hp hn hg ⟨q.ok.imp id fun h=>h.imp (fun⟨a,b,k,c⟩=>⟨a,b,k,c.mono fun _ _ ⟨_,_,_,_,h⟩=>h.elim⟩) (fun⟨a,b,d,c⟩=>⟨a,b,d,c.mono fun _ _ ⟨_,_,_,_,h⟩=>h.elim⟩)⟩ (fun _ v h' hk=>by rw[V.seq_eq] at hk; exact hk) with h|⟨_,k,⟨t,hp',hk⟩,_⟩
 ·exact h
 ·obtain⟨_,_,_,_,_,_,_,hk⟩:=hk; exact hk.elim
theorem ah.guard{dr:Bool}{f:FuncId}{args:List V}{n:Nat}{K:V->Hz->Prop}{KW:Nat->V->Hz->Prop}(q:ah P dr (some false) f args h n K KW): ∃ v,K v h:=by
 rcases q.ok with (⟨v,_,_,k⟩|⟨_,_,k⟩)|⟨h1,_⟩|⟨h1,_⟩
 ·exact⟨v,k⟩
 ·exact⟨_,k rfl⟩
 ·cases h1
 ·cases h1
theorem Zu{dr fl:Bool}{a b c:Prop}:Fv dr fl a b c↔(dr=false/\a)\/(dr=true/\bif fl then c else b):=by
 cases dr<;>cases fl<;>simp[Fv]
theorem uO{dr fl:Bool}{C:Bool->Prop}(q:Fv dr fl (C false) (C true) (C false)):C (dr&& !fl):=by
 cases dr<;>cases fl<;>exact q
theorem WI{N pn nx n:Nat}{KK:Nat->Fm->Hz->Prop}{s:AS}{o:aJ}{dr:Bool}(hl:s.fr.length=N)(hd: ∀ i,o.d=some i->i<N)(R:Rp m s.fr)(hh:s.hp=h.ay)(hp:s.pin=pn)(hn:s.nx=nx)
  (q:agG P dr nx n o KK m h):(gv o.g s=some true/\jE o s/\(oP P (o.dr dr) n o.d o.op (Kz N pn nx (KK 0)) s\/opW P dr n o.d o.op (fun s'=> ∃ k,Kz N pn (nx+k) (KK k) s') s))\/(gv o.g s=some false/\Kz N pn nx (KK 0) (s.put o.d T.un)):=by
 unfold agG at q;split at q
 ·exact q.elim
 ·rename_i g hg;cases hf:G7 nx o m with
  |false=>rw[hf] at q; exact q.elim
  |true =>
   rw[hf] at q;simp only[bS] at q;have hfl:jE o s:=MV R (by rw[hn]; exact hf);have un: ∀ {v:V} {h':Hz},h'=h->KK 0 (iP o.d (sK (some false) v) m) h'->Kz N pn nx (KK 0) (s.put o.d T.un):=fun {v h'} e hk=>by
    subst e;have:=Kz.put (s:=s) (v:=sK (some false) v) (t:=T.un) hl hd R hp hn (WG v).symm hk;rw[<- hh] at this;have e2:({(s.put o.d T.un) with hp:=s.hp}:AS)=s.put o.d T.un:=by
     cases o.d<;>rfl
    rw[e2] at this;exact this
   rcases Zt R hg with ⟨h1,h2⟩|⟨h1,rfl⟩
   ·refine .inl ⟨h1,hfl,?_⟩;split at q
    ·rename_i f xs eo;split at q
     ·rename_i l sd hb;obtain⟨hs,q⟩:=lD q;have ed:o.dr dr=(dr&& !o.fl):=by unfold aJ.dr; rw[eo]
      rw[ed,eo];show nM P (dr&& !o.fl) n o.d f (xs.map s.ev) _ s\/(dr=false/\ ∃ k,jP P f (xs.map s.ev) s.hp n k _);rw[tN R hb (hs h2)];split at q
      ·rw[Zu] at q;rcases q with ⟨e,q⟩|q
       ·rw[e];exact(MW (g:=none) hl hd R hh hp hn h2 q (fun e=>by cases e)).imp id fun⟨a,k,b⟩=>⟨a,k,b.mono fun _ _ hk=>⟨k,hk⟩⟩
       ·obtain⟨hdt,q⟩:=q;refine .inl (yV (g:=none) hl hd R hh hp hn h2 ?_);rw[hdt];cases hf2:o.fl<;>rw[hf2] at q<;>exact q
      ·rename_i bb _;exact .inl (yV hl hd R hh hp hn h2 (uO (C:=fun dr=>ah P dr (some bb) f l h n (fun v h'=>v.seq fun v=>KK 0 (iP o.d (sK (some bb) v) m) h') (fun _ _ _=>False)) q))
     ·exact q.elim
    ·rename_i x xs eo;split at q
     ·rename_i v0 l sd e1 hb;split at q
      ·rename_i f cap s0 hb0;obtain⟨hs,q⟩:=lD q;have hs2:=Sd.qw.1 (hs h2);have ed:o.dr dr=(dr&& !o.fl):=by unfold aJ.dr; rw[eo]
       rw[ed,eo];cases h81:Nat.blt f 8192 with
       |false =>
        have h40:Nat.blt f 4096=false:=by
         cases hq:Nat.blt f 4096 with
         |false=>rfl
         |true=>rw[cW.mpr (Nat.lt_trans (cW.mp hq) (by decide))] at h81; cases h81
        rw[h40,h81] at q;right;cases dr with
        |true=>exact q.elim
        |false =>
         have q':ahK P f cap l h n (fun v h'=>v.seq fun v=>KK 0 (iP o.d v m) h'):=by
          rcases h2 with rfl|rfl
          ·exact q
          ·obtain⟨qa,_⟩:=q; exact qa rfl
         refine⟨rfl,?_⟩;rw[R.ev e1,eH hb0 hs2.1];simp only[V.aH];rw[tN R hb hs2.2,hh];refine⟨h81,q'.ok.mono ?_⟩;rintro t hp' ⟨v,h',rfl,rfl,hk⟩;rw[V.seq_eq] at hk;exact⟨0,Kz.put hl hd R hp hn rfl hk⟩
       |true =>
       left;simp only[oP];rw[R.ev e1,eH hb0 hs2.1];simp only[V.aH];rw[tN R hb hs2.2,<- yc];cases hbl:Nat.blt f 4096 with
       |true=>rw[hbl] at q; exact yV hl hd R hh hp hn h2 (uO (C:=fun dr=>ah P dr g f (l++cap) h n (fun v h'=>v.seq fun v=>KK 0 (iP o.d (sK g v) m) h') (fun _ _ _=>False)) q)
       |false=>rw[hbl,h81] at q; refine⟨h81,?_⟩; exact yV (l:=.agg cap::l) hl hd R hh hp hn h2 (uO (C:=fun dr=>ah P dr g (f % 4096) (.agg cap::l) h n (fun v h'=>v.seq fun v=>KK 0 (iP o.d (sK g v) m) h') (fun _ _ _=>False)) q)
      ·exact q.elim
     ·exact q.elim
    ·rename_i hn1 hn2;have ed:o.dr dr=dr:=by
      unfold aJ.dr;split
      ·rename_i e; exact absurd e (hn1 _ _)
      ·rename_i e; exact absurd e (hn2 _ _)
      ·rfl
     rw[ed];left;split at q
     ·rename_i v sd hq;obtain⟨hs,hk⟩:=lD q;rw[V.seq_eq] at hk;obtain⟨hqu,hc,ht⟩:=abV R hh hq (hs h2);rw[bG hqu];refine⟨hc,?_⟩;have:=Kz.put (s:=s) (v:=sK g v) (t:=qt s o.op) hl hd R hp hn (by rw[ht]; rcases h2 with rfl|rfl; rfl; exact(Je v).symm) hk;rw[<- hh] at this;have e2:({(s.put o.d (qt s o.op)) with hp:=s.hp}:AS)=s.put o.d (qt s o.op):=by cases o.d<;>rfl
      rw[e2] at this;exact this
     ·split at q
      ·exact Ph hl hd R hh hp hn q
      ·rename_i b _;rcases h2 with h2|h2
       ·cases h2
       ·cases h2;obtain⟨qa,_⟩:=q;exact Ph hl hd R hh hp hn (qa rfl)
   ·refine .inr ⟨h1,?_⟩;split at q
    ·split at q
     ·obtain⟨hs,q⟩:=lD q;obtain⟨v,hk⟩:=ah.guard (uO (C:=fun dr=>ah P dr (some false) _ _ h n (fun v h'=>v.seq fun v=>KK 0 (iP o.d (sK (some false) v) m) h') (fun _ _ _=>False)) q);rw[V.seq_eq] at hk;exact un rfl hk
     ·exact q.elim
    ·split at q
     ·rename_i v0 l sd e1 hb;split at q
      ·rename_i f cap s0 hb0;obtain⟨hs,q⟩:=lD q;cases hbl:Nat.blt f 4096 with
       |true =>
        rw[hbl] at q;obtain⟨v,hk⟩:=ah.guard (uO (C:=fun dr=>ah P dr (some false) f (l++cap) h n (fun v h'=>v.seq fun v=>KK 0 (iP o.d (sK (some false) v) m) h') (fun _ _ _=>False)) q);rw[V.seq_eq] at hk;exact un rfl hk
       |false =>
        rw[hbl] at q;cases h81:Nat.blt f 8192 with
        |false =>
         rw[h81] at q;cases dr with
         |true=>exact q.elim
         |false =>
          obtain⟨_,qb⟩:=q;exact un (v:=.int 0) rfl (qb rfl)
        |true =>
        rw[h81] at q;obtain⟨v,hk⟩:=ah.guard (uO (C:=fun dr=>ah P dr (some false) (f % 4096) (.agg cap::l) h n (fun v h'=>v.seq fun v=>KK 0 (iP o.d (sK (some false) v) m) h') (fun _ _ _=>False)) q);rw[V.seq_eq] at hk;exact un rfl hk
      ·exact q.elim
     ·exact q.elim
    ·split at q
     ·obtain⟨hs,hk⟩:=lD q;rw[V.seq_eq] at hk;exact un rfl hk
     ·obtain⟨_,qb⟩:=q;have e3:V.cnd false (phZ o.op)=sK (some false) (phZ o.op):=by cases o.op<;>rfl
      exact un (v:=phZ o.op) rfl (by rw[<- e3]; exact qb rfl)
theorem Zv{N pn nx n:Nat}{KK:Nat->Fm->Hz->Prop}{s:AS}{o:aJ}{dr:Bool}(hl:s.fr.length=N)(hd: ∀ i,o.d=some i->i<N)(R:Rp m s.fr)(hh:s.hp=h.ay)(hp:s.pin=pn)(hn:s.nx=nx)
  (q:opZ P dr nx n o KK m h):(gv o.g s=some true/\jE o s/\(opR P dr n o (Kz N pn nx (KK 0)) s\/opW P dr n o.d o.op (fun s'=> ∃ k,Kz N pn (nx+k) (KK k) s') s))\/(gv o.g s=some false/\Kz N pn nx (KK 0) (s.put o.d T.un)):=by
 unfold opZ at q;cases har:o.ar with
 |true =>
  rw[har] at q;simp only at q;unfold arZ at q;split at q
  ·rename_i f xs eo eg;cases hf:(o.fl&&G7 nx o m) with
   |false=>rw[hf] at q; exact q.elim
   |true =>
    rw[hf] at q;simp only[bS] at q;rw[aD] at hf;have hfl:jE o s:=MV R (by rw[hn]; exact hf.2);refine .inl ⟨by rw[eg]; rfl,hfl,.inl (.inr ⟨har,hf.1,?_⟩)⟩;split at q
    ·rename_i l sd hb;obtain⟨hs,q⟩:=lD q;obtain⟨v,ob,c1,c2,c3,hk⟩:=q.ok;rw[eo];refine⟨v.aH,ob.map OV.au,c1,?_,?_,?_⟩
     ·intro o' ho';cases ob with
      |none=>cases ho'
      |some ob=>cases ho'; exact c2 _ rfl
     ·intro hp' he _;rw[tN R hb (hs (.inl rfl))];exact c3 hp' (by rw[<- hh]; exact he)
     ·rw[V.seq_eq] at hk;cases ob with
      |none =>
       show Kz N pn nx (KK 0) {(s.put o.d v.aH) with hp:=s.hp};rw[hh];exact Kz.put (v:=v) hl hd R hp hn rfl hk
      |some ob =>
       have e:jF s.hp n (some ob.au)=Hz.ay ((n,some ob)::h):=by rw[dG,hh]; rfl
       show Kz N pn nx (KK 0) {(s.put o.d v.aH) with hp:=jF s.hp n (some ob.au)};rw[e];exact Kz.put (v:=v) hl hd R hp hn rfl hk
    ·exact q.elim
  ·exact q.elim
 |false =>
 rw[har] at q;simp only at q;cases had:o.ad with
 |false =>
  rw[had] at q;rcases WI hl hd R hh hp hn q with ⟨h1,h2,h3⟩|h1
  ·exact .inl ⟨h1,h2,h3.imp (fun h=>.inl ⟨har,jS (fun s' _ _ h=>⟨fun e=>(by rw[had] at e; cases e),h⟩) h⟩) id⟩
  ·exact .inr h1
 |true =>
  rw[had] at q;simp only at q;unfold adZ at q;split at q
  ·rename_i f xs eo eg;cases hf:(o.fl&&G7 nx o m) with
   |false=>rw[hf] at q; exact q.elim
   |true =>
    rw[hf] at q;simp only[bS] at q;rw[aD] at hf;have hfl:jE o s:=MV R (by rw[hn]; exact hf.2);refine .inl ⟨by rw[eg]; rfl,hfl,.inl (.inl ⟨har,?_⟩)⟩;split at q
    ·rename_i l sd hb;obtain⟨hs,q⟩:=lD q;have ed:o.dr dr=false:=by unfold aJ.dr; rw[eo,hf.1]; cases dr<;>rfl
     rw[ed,eo];show aP P f (xs.map s.ev) s.hp n _;rw[tN R hb (hs (.inl rfl)),hh];have hx: ∀ {h':Hz} {s':AS},s'.hp=h'.ay->(h'=h\/ ∃ o,h'=(n,some o)::h/\h.get n=none)-> ∀ i ob,s.hp i=some ob->s'.hp i=some ob:=by
      intro h' s' e1 e2 i ob hi;rw[e1];rw[hh] at hi;rcases e2 with rfl|⟨o',rfl,hn0⟩
      ·exact hi
      ·rw[dG];have hne:i≠n:=by
        rintro rfl;simp only[Hz.ay,hn0] at hi; cases hi
       simp only[upd,bX hne]; exact hi
     rcases q.ok with q|⟨_,e,_⟩|⟨_,_,hn0,q⟩
     ·refine aP.mono q ?_;rintro t hp' ⟨v,h',e1,e2,e3,hk⟩;rw[V.seq_eq] at hk;subst e2;exact⟨(fun e=>by cases e),fun _=>hx rfl (.inl (e3 rfl).1),Kz.put (v:=v) hl hd R hp hn e1 hk⟩
     ·cases e
     ·refine aP.mono q ?_;rintro t hp' ⟨v,o',e1,e2,hk⟩;rw[V.seq_eq] at hk;subst e2;exact⟨(fun e=>by cases e),fun _=>hx rfl (.inr ⟨o',rfl,hn0⟩),Kz.put (v:=v) hl hd R hp hn e1 hk⟩
    ·exact q.elim
  ·exact q.elim
theorem TW{N pn ml:Nat}{K:Fm->Hz->Nat->Prop}{dr:Bool}: ∀ {nx:Nat} {ops:List aJ} {i:Nat} {m:Fm} {h:Hz} {s:AS},QL N ops=true->s.fr.length=N->Rp m s.fr->s.hp=h.ay->s.pin=pn->s.nx=nx ->
  TU P dr ml nx K ops i m h->uw P dr ml (fun s=> ∃ m h,s.fr.length=N/\Rp m s.fr/\s.hp=h.ay/\s.pin=pn/\K m h s.nx) ops i s:=by
 intro nx ops;induction ops generalizing nx with
 |nil =>
  intro i m h s _ hl R hh hp hn q;exact⟨m,h,hl,R,hh,hp,by show K m h (s.nx+ml); rw[hn]; exact q⟩
 |cons o r ih =>
  intro i m h s hd hl R hh hp hn q;simp only[QL,aD] at hd;have hd1: ∀ j,o.d=some j->j<N:=fun j e=>by
   have:=hd.1;rw[e] at this;simpa using this
  simp only[uw];rw[E8];have next: ∀ s',s'.nx=s.nx->s'.pin=s.pin->Kz N pn nx (TU P dr ml nx K r (i+1)) s'->uw P dr ml (fun s=> ∃ m h,s.fr.length=N/\Rp m s.fr/\s.hp=h.ay/\s.pin=pn/\K m h s.nx) r (i+1) s':=by
   rintro s' _ _ ⟨m',h',a1,a2,a3,a4,a5,a6⟩;exact ih hd.2 a1 a2 a3 a4 a5 a6
  have ahL: ∀ s',(∃ k,Kz N pn (nx+k) (TU P dr ml (nx+k) K r (i+1)) s')->uw P dr ml (fun s=> ∃ m h,s.fr.length=N/\Rp m s.fr/\s.hp=h.ay/\s.pin=pn/\K m h s.nx) r (i+1) s':=by
   rintro s' ⟨k,m',h',a1,a2,a3,a4,a5,a6⟩;exact ih hd.2 a1 a2 a3 a4 a5 a6
  rcases Zv hl hd1 R hh hp hn q with ⟨h1,h2,h3⟩|⟨h1,h2⟩
  ·refine .inl ⟨h1,h2,?_⟩;rw[hn];exact h3.imp (fun h=>h.imp (fun h=>⟨h.1,jS (fun s' a b c=>⟨c.1,next s' a b c.2⟩) h.2⟩) fun h=>⟨h.1,h.2.1,Mc (fun s' a b c=>next s' a b c) h.2.2⟩) (TI ahL)
  ·exact .inr ⟨h1,next _ (fF _ _ _) (ig _ _ _) h2⟩
theorem qQ{N pn:Nat}: ∀ {c:dZ} {Q:Qz} {m:Fm} {h:Hz} {s:AS},rX N c=true->s.fr.length=N->Rp m s.fr->s.hp=h.ay->s.pin=pn->az P N pn c Q m h s.nx->aw P c (Lift N pn Q) s:=by
 intro c;induction c with
 |skip=>intro Q m h s _ hl R hh hp q; exact⟨m,h,hl,R,hh,hp,q⟩
 |reg dr ops =>
  intro Q m h s hd hl R hh hp q;exact TW hd hl R hh hp rfl q
 |seq a b ia ib =>
  intro Q m h s hd hl R hh hp q;simp only[rX,aD] at hd;simp only[aw];refine mY ?_ (ia hd.1 hl R hh hp q);rintro e s' ⟨m',h',b1,b2,b3,b4,b5⟩;cases e with
  |normal=>exact ib hd.2 b1 b2 b3 b4 b5
  |exit j=>exact⟨m',h',b1,b2,b3,b4,b5⟩
  |ret=>exact⟨m',h',b1,b2,b3,b4,b5⟩
 |cond c a b ia ib =>
  intro Q m h s hd hl R hh hp q;simp only[rX,aD] at hd;simp only[az] at q;simp only[aw];split at q
  ·rename_i t e;rw[R.ev e];obtain⟨q1,q2⟩:=q;exact⟨fun e=>ia hd.1 hl R hh hp (q1 e),fun e=>ib hd.2 hl R hh hp (q2 e)⟩
  ·exact q.elim
 |blk id b ib =>
  intro Q m h s hd hl R hh hp q;simp only[aw];refine mY ?_ (ib hd hl R hh hp q);rintro e s' ⟨m',h',b1,b2,b3,b4,b5⟩;cases e with
  |normal=>exact⟨m',h',b1,b2,b3,b4,b5⟩
  |ret=>exact⟨m',h',b1,b2,b3,b4,b5⟩
  |exit j =>
   simp only at b5 ⊢;by_cases e:j=id
   ·subst e; simp at b5 ⊢; exact⟨m',h',b1,b2,b3,b4,b5⟩
   ·have e1:Nat.beq j id=false:=by
     cases hb:Nat.beq j id with
     |false=>rfl
     |true=>exact absurd (fE hb) e
    have e2:(j==id)=false:=by simpa using e
    rw[e1] at b5; rw[e2];exact⟨m',h',b1,b2,b3,b4,b5⟩
 |exit i=>intro Q m h s _ hl R hh hp q; exact⟨m,h,hl,R,hh,hp,q⟩
 |ret=>intro Q m h s _ hl R hh hp q; exact⟨m,h,hl,R,hh,hp,q⟩
 |loop b ib =>
  intro Q m h s _ hl R hh hp q;have:=q.ok s.fr hl R;rw[<- hh,<- hp] at this;simp only[aw];rw[hp] at this;have e:(⟨s.fr,s.hp,s.nx,pn⟩:AS)=s:=by rw[<- hp]
  rw[e] at this;exact this
end
end Go.Ab
