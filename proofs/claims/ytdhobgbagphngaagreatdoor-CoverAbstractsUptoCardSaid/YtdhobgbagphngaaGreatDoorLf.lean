/-
 The typed layer, part 1: typed values, rows, objects. Definitions alone.
-/
import Derived.Test.YtdhobgbagphngaaGreatDoorLd
import Derived.Test.YtdhobgbagphngaaGreatDoorLc
namespace Go.Ab
inductive Dat where
 |lin (x:Lin)
 |Tt (x:Ar)
 |rule (x:Rule)
 |fK (x:aH)
 |cnt (x:Cnt)
 |prop (x:Prop')
 |clause (x:Clause)
 |elem (x:Elem)
@[reducible] def aej(l:List Bool):T:=.sl 0 false (l.map T.bool)
@[reducible] def aek(l:List (List Int)):T:=.sl 0 false (l.map Go.Ab.ints)
inductive Rw where
 |ints (l:List Int)
 |bools (l:List Bool)
 |strs (l:List Str)
 |dW (l:List (List Int))
 |nH (l:List (List Bool))
 |nI (l:List (List (List Int)))
 |BF (l:List Lin)
 |qZ (l:List Ar)
 |rules (l:List Rule)
 |cnts (l:List Cnt)
 |clauses (l:List Clause)
 |elems (l:List Elem)
 |nil
inductive V where
 |int (n:Int)
 |bool (b:Bool)
 |u8 (n:Int)
 |str (s:Str)
 |dat (d:Dat)
 |agg (l:List V)
 |row (k:Nat) (full:Bool) (r:Rw)
 |G9 (k:Nat) (full:Bool) (l:List V)
 |ref (k:Nat) (v:V)
 |own (i:Nat)
 |inn (i:Nat)
 |pin (i j off:Nat)
 |ptr (i j off:Nat)
 |pq (i lo hi:Nat)
 |fn (f:FuncId) (cap:List V)
 |dn (l:List V)
 |cnd (b:Bool) (v:V)
 |raw (t:T)
def Dat.aG:Dat->T
 | .lin x=>Uy x
 | .Tt x=>QT x
 | .rule x=>Kw x
 | .fK x=>ZA x
 | .cnt x=>Uz x
 | .prop x=>adq x
 | .clause x=>Jd x
 | .elem x=>iE x
def Dat.kd:Dat->Nat
 | .lin _=>5
 | .Tt _=>7
 | .rule _=>19
 | .fK _=>11
 | .cnt _=>3
 | .prop _=>7
 | .clause _=>4
 | .elem _=>3
def Rw.aT:Rw->List T
 | .ints l=>l.map T.int
 | .bools l=>l.map T.bool
 | .strs l=>l.map eS
 | .dW l=>l.map Go.Ab.ints
 | .nH l=>l.map aej
 | .nI l=>l.map aek
 | .BF l=>l.map Uy
 | .qZ l=>l.map QT
 | .rules l=>l.map Kw
 | .cnts l=>l.map Uz
 | .clauses l=>l.map Jd
 | .elems l=>l.map iE
 | .nil=>[]
mutual
def V.aG:V->T
 | .int n=>.int n
 | .bool b=>.bool b
 | .u8 n=>.lit (.int .u8 n)
 | .str s=>eS s
 | .dat d=>d.aG
 | .agg l=>.agg (V.aT l)
 | .row k f r=>.sl k f r.aT
 | .G9 k f l=>.sl k f (V.aT l)
 | .ref k v=>.ref k v.aG
 | .own i=>.own i
 | .inn i=>.own i
 | .pin i j off=>.ptr i j off
 | .ptr i j off=>.ptr i j off
 | .pq i lo hi=>.pq i lo hi
 | .fn f cap=>.fn f (V.aT cap)
 | .dn l=>.dn (V.aT l)
 | .cnd b v=>bif b then v.aG else T.un
 | .raw t=>t
def V.aT:List V->List T
 |[]=>[]
 |v::r=>v.aG::V.aT r
end
def Dat.cells:Dat->List V
 | .lin x=>[.int x.c,.int x.n,.int x.t,.int x.f]
 | .Tt x=>[.int x.message,.int x.Fz,.int x.bound.c,.int x.bound.n,.int x.bound.t,.int x.bound.f]
 | .rule x=>[.str x.name,.int x.kind,.int x.fr,.int x.to,.int x.kG,.int x.Di,.row 0 false (.ints x.response),.row 7 false (.qZ x.guards),.row 0 false (.ints x.ex),.row 0 false (.ints x.all),.int x.read,.int x.write,.row 0 false (.ints x.send),.int x.pos,.row 0 false (.ints x.left),.row 0 false (.ints x.right),.row 0 false (.ints x.parent),.int x.direction]
 | .fK x=>[.str x.name,.int x.topology,.row 0 false (.strs x.states),.row 0 false (.strs x.messages),.row 0 false (.strs x.values),.int x.fault,.row 5 false (.BF x.bU),.row 0 false (.ints x.initial),.row 0 false (.ints x.leader),.row 19 false (.rules x.rules)]
 | .cnt x=>[.row 0 false (.ints x.states),.int x.least]
 | .prop x=>[.str x.name,.int x.kind,.row 0 false (.ints x.start),.row 3 false (.cnts x.bad),.row 0 false (.ints x.adjacent),.row 0 false (.ints x.goal)]
 | .clause x=>[.row 0 false (.dW x.each),.row 0 false (.ints x.values),.row 0 false (.ints x.some)]
 | .elem x=>[.int x.value,.row 0 false (.ints x.counts)]
theorem Dat.He(d:Dat):d.aG= .agg (V.aT d.cells):=by cases d<;>rfl
theorem Dat.ael(d:Dat):d.aG.kd=d.kd:=by cases d<;>rfl
def Rw.len:Rw->Nat
 | .ints l=>l.length
 | .bools l=>l.length
 | .strs l=>l.length
 | .dW l=>l.length
 | .nH l=>l.length
 | .nI l=>l.length
 | .BF l=>l.length
 | .qZ l=>l.length
 | .rules l=>l.length
 | .cnts l=>l.length
 | .clauses l=>l.length
 | .elems l=>l.length
 | .nil=>0
def Rw.lenV:Rw->V
 | .ints l=>.int l.length
 | .bools l=>.int l.length
 | .strs l=>.int l.length
 | .dW l=>.int l.length
 | .nH l=>.int l.length
 | .nI l=>.int l.length
 | .BF l=>.int l.length
 | .qZ l=>.int l.length
 | .rules l=>.int l.length
 | .cnts l=>.int l.length
 | .clauses l=>.int l.length
 | .elems l=>.int l.length
 | .nil=>.int 0
def Rw.rng(n:Int):Rw->Prop
 | .ints l=>0<=n/\n<l.length
 | .bools l=>0<=n/\n<l.length
 | .strs l=>0<=n/\n<l.length
 | .dW l=>0<=n/\n<l.length
 | .nH l=>0<=n/\n<l.length
 | .nI l=>0<=n/\n<l.length
 | .BF l=>0<=n/\n<l.length
 | .qZ l=>0<=n/\n<l.length
 | .rules l=>0<=n/\n<l.length
 | .cnts l=>0<=n/\n<l.length
 | .clauses l=>0<=n/\n<l.length
 | .elems l=>0<=n/\n<l.length
 | .nil=>False
def Rw.rJ(n:Int):Rw->Prop
 | .ints l=>0<=n/\n<=l.length
 | .bools l=>0<=n/\n<=l.length
 | .strs l=>0<=n/\n<=l.length
 | .dW l=>0<=n/\n<=l.length
 | .nH l=>0<=n/\n<=l.length
 | .nI l=>0<=n/\n<=l.length
 | .BF l=>0<=n/\n<=l.length
 | .qZ l=>0<=n/\n<=l.length
 | .rules l=>0<=n/\n<=l.length
 | .cnts l=>0<=n/\n<=l.length
 | .clauses l=>0<=n/\n<=l.length
 | .elems l=>0<=n/\n<=l.length
 | .nil=>n=0
def Rw.get(i:Nat):Rw->V
 | .ints l=>.int (l.getD i 0)
 | .bools l=>.bool (l.getD i false)
 | .strs l=>.str (l.getD i [])
 | .dW l=>.row 0 false (.ints (l.getD i []))
 | .nH l=>.row 0 false (.bools (l.getD i []))
 | .nI l=>.row 0 false (.dW (l.getD i []))
 | .BF l=>.dat (.lin (l.getD i default))
 | .qZ l=>.dat (.Tt (l.getD i default))
 | .rules l=>.dat (.rule (l.getD i default))
 | .cnts l=>.dat (.cnt (l.getD i default))
 | .clauses l=>.dat (.clause (l.getD i default))
 | .elems l=>.dat (.elem (l.getD i default))
 | .nil=>.raw .any
def Rw.take(i:Nat):Rw->Rw
 | .ints l=>.ints (l.take i)
 | .bools l=>.bools (l.take i)
 | .strs l=>.strs (l.take i)
 | .dW l=>.dW (l.take i)
 | .nH l=>.nH (l.take i)
 | .nI l=>.nI (l.take i)
 | .BF l=>.BF (l.take i)
 | .qZ l=>.qZ (l.take i)
 | .rules l=>.rules (l.take i)
 | .cnts l=>.cnts (l.take i)
 | .clauses l=>.clauses (l.take i)
 | .elems l=>.elems (l.take i)
 | .nil=>.nil
def Rw.drop(i:Nat):Rw->Rw
 | .ints l=>.ints (l.drop i)
 | .bools l=>.bools (l.drop i)
 | .strs l=>.strs (l.drop i)
 | .dW l=>.dW (l.drop i)
 | .nH l=>.nH (l.drop i)
 | .nI l=>.nI (l.drop i)
 | .BF l=>.BF (l.drop i)
 | .qZ l=>.qZ (l.drop i)
 | .rules l=>.rules (l.drop i)
 | .cnts l=>.cnts (l.drop i)
 | .clauses l=>.clauses (l.drop i)
 | .elems l=>.elems (l.drop i)
 | .nil=>.nil
def Rw.app:Rw->Rw->Option Rw
 |r,.nil=>some r
 | .nil,r=>some r
 | .ints a,.ints b=>some (.ints (a++b))
 | .bools a,.bools b=>some (.bools (a++b))
 | .strs a,.strs b=>some (.strs (a++b))
 | .dW a,.dW b=>some (.dW (a++b))
 | .nH a,.nH b=>some (.nH (a++b))
 | .nI a,.nI b=>some (.nI (a++b))
 | .BF a,.BF b=>some (.BF (a++b))
 | .qZ a,.qZ b=>some (.qZ (a++b))
 | .rules a,.rules b=>some (.rules (a++b))
 | .cnts a,.cnts b=>some (.cnts (a++b))
 | .clauses a,.clauses b=>some (.clauses (a++b))
 | .elems a,.elems b=>some (.elems (a++b))
 |_,_=>none
def Rw.kd:Rw->Nat
 | .ints _=>0
 | .bools _=>0
 | .strs _=>0
 | .dW _=>0
 | .nH _=>0
 | .nI _=>0
 | .BF _=>5
 | .qZ _=>7
 | .rules _=>19
 | .cnts _=>3
 | .clauses _=>4
 | .elems _=>3
 | .nil=>0
def V.one:V->Option Rw
 | .int n=>some (.ints [n])
 | .bool b=>some (.bools [b])
 | .str s=>some (.strs [s])
 | .row 0 false (.ints l)=>some (.dW [l])
 | .row 0 false (.bools l)=>some (.nH [l])
 | .row 0 false (.dW l)=>some (.nI [l])
 | .dat (.lin x)=>some (.BF [x])
 | .dat (.Tt x)=>some (.qZ [x])
 | .dat (.rule x)=>some (.rules [x])
 | .dat (.cnt x)=>some (.cnts [x])
 | .dat (.clause x)=>some (.clauses [x])
 | .dat (.elem x)=>some (.elems [x])
 | .agg [.int a,.row 0 false (.ints c)]=>some (.elems [⟨a,c⟩])
 | .agg [.row 0 false (.ints c),.int a]=>some (.cnts [⟨c,a⟩])
 | .agg [.row 0 false (.dW e),.row 0 false (.ints v),.row 0 false (.ints s)]=>some (.clauses [⟨e,v,s⟩])
 |_=>none
def Rw.YC:List V->Option Rw
 |[]=>some .nil
 |v::r=>match v.one,Rw.YC r with
  |some a,some b=>a.app b
  |_,_=>none
def Rw.vs:Rw->List V
 | .ints l=>l.map .int
 | .bools l=>l.map .bool
 | .strs l=>l.map .str
 | .dW l=>l.map fun c=>.row 0 false (.ints c)
 | .nH l=>l.map fun c=>.row 0 false (.bools c)
 | .nI l=>l.map fun c=>.row 0 false (.dW c)
 | .BF l=>l.map fun c=>.dat (.lin c)
 | .qZ l=>l.map fun c=>.dat (.Tt c)
 | .rules l=>l.map fun c=>.dat (.rule c)
 | .cnts l=>l.map fun c=>.dat (.cnt c)
 | .clauses l=>l.map fun c=>.dat (.clause c)
 | .elems l=>l.map fun c=>.dat (.elem c)
 | .nil=>[]
inductive OV where
 |row (ty k:Nat) (r:Rw) (x:List V)
 |box (ty k:Nat) (v:V)
 |map (ty:Nat) (es:List (Int×List Bool)) (x:List (Int×V))
 |gen (ty k:Nat) (x:List V)
def OW(e:Int×List Bool):T:=.dn [.int e.1,.sl 0 false (e.2.map T.bool)]
def abU(e:Int×V):T:=.dn [.int e.1,e.2.aG]
def OV.aA:OV->Ob
 | .row ty k r x=>⟨ty,k,r.aT++V.aT x⟩
 | .box ty k v=>⟨ty,k,[v.aG]⟩
 | .map ty es x=>⟨ty,fM,es.map OW++x.map abU⟩
 | .gen ty k x=>⟨ty,k,V.aT x⟩
abbrev Fm:=List (Nat×V)
def Fm.get(i:Nat):Fm->Option V
 |[]=>none
 |(j,v)::r=>bif Nat.beq j i then some v else Fm.get i r
abbrev Hz:=List (Nat×Option OV)
def Hz.get(i:Nat):Hz->Option OV
 |[]=>none
 |(j,o)::r=>bif Nat.beq j i then o else Hz.get i r
def Hz.au(h:Hz):Hp:=fun i=>(h.get i).map OV.aA
mutual
def EF:T->V
 | .lit (.int .i64 n)=>.int n
 | .lit (.int .u8 n)=>.u8 n
 | .lit (.bool b)=>.bool b
 | .lit (.string b)=>.str b.data.toList
 | .sl k f []=>.row k f .nil
 | .agg l=>.agg (YC l)
 | .fn f l=>.fn f (YC l)
 |t=>.raw t
def YC:List T->List V
 |[]=>[]
 |t::r=>EF t::YC r
end
def V.kd:V->Option Nat
 | .dat d=>some d.kd
 | .agg l=>some (l.length+1)
 | .cnd _ _=>none
 | .raw _=>none
 |_=>some 0
def V.cells:V->Option (List V)
 | .dat d=>some d.cells
 | .agg l=>some l
 | .cnd _ _=>none
 | .raw _=>none
 |v=>some [v]
def V.jW(h:Hz):V->Bool
 | .own i=>(h.get i).isSome
 | .ptr i _ _=>(h.get i).isSome
 | .pq i _ _=>(h.get i).isSome
 | .cnd _ _=>false
 | .raw _=>false
 | .dn _=>false
 | .inn _=>false
 | .pin _ _ _=>false
 |_=>true
def V.part(off:Nat):Nat->V->Option V
 |0,.dat d=>d.cells[off]?
 |0,.agg l=>l[off]?
 |k+1,.dat (.Tt x)=>bif (Nat.beq off 2)&&(Nat.beq k 4) then some (.dat (.lin x.bound)) else none
 |k+1,.agg l=>some (.agg ((l.drop off).take k))
 |_,_=>none
inductive VC(p k:Prop):Prop where
 |mk:p->k->VC p k
inductive Fork(b:Bool)(x y:Prop):Prop where
 |mk:(b=true->x)->(b=false->y)->Fork b x y
inductive Sd where
 |no
 |yes (p:Prop)
def Sd.holds:Sd->Prop
 | .no=>True
 | .yes p=>p
def Sd.and:Sd->Sd->Sd
 | .no,b=>b
 |a,.no=>a
 | .yes p,.yes q=>.yes (p/\q)
def Sd.imp(t:Bool)(b:Bool):Sd->Sd
 | .no=>.no
 | .yes p=>.yes (t=b->p)
def Sd.vc(g:Option Bool)(k:Prop):Sd->Prop
 | .no=>k
 | .yes p=>match g with
  |none=>VC p k
  |some b=>VC (b=true->p) k
def V.bare:V->V×Sd
 | .cnd c v=>(v,.yes (c=true))
 |v=>(v,.no)
mutual
def V.free:V->Bool
 | .own _=>false
 | .ptr _ _ _=>false
 | .pq _ _ _=>false
 | .inn _=>false
 | .pin _ _ _=>false
 | .cnd _ _=>false
 | .raw t=>t.free
 | .agg l=>V.bZ l
 | .fn _ l=>V.bZ l
 | .dn l=>V.bZ l
 |_=>true
def V.bZ:List V->Bool
 |[]=>true
 |v::r=>V.free v&&V.bZ r
end
def Am(m:Fm):X->Option V
 | .t n=>m.get n
 | .c t=>some (EF t)
def evL(m:Fm):List X->Option (List V)
 |[]=>some []
 |x::r=>match Am m x,evL m r with
  |some v,some l=>some (v::l)
  |_,_=>none
abbrev Au:=Option (V×Sd)
def Nw(m:Fm)(x:X)(f:V->Au):Au :=
 match Am m x with
 |some v=>match v.bare with
  |(u,s)=>match f u with
   |some (r,s')=>some (r,s.and s')
   |none=>none
 |none=>none
def qz2(m:Fm)(x y:X)(f:V->V->Au):Au:=Nw m x fun u=>Nw m y fun v=>f u v
def okI(n:Int):Prop:= -9223372036854775808<=n/\n<9223372036854775808
def TK(a b:Int):Int:=a.fdiv (2 ^ min b.toNat 64)
theorem AQ(a:Int):TK a 1=a / 2:=by
 show Int.fdiv a 2=_;rw[Int.fdiv_eq_ediv_of_nonneg _ (by decide)]
def aem(op:BinOp):V->V->Au
 | .int a,.int b=>match op with
  | .add=>some (.int (a+b),.yes (okI (a+b)))
  | .sub=>some (.int (a-b),.yes (okI (a-b)))
  | .mul=>some (.int (a*b),.yes (okI (a*b)))
  | .eql=>some (.bool (a==b),.no)
  | .neq=>some (.bool (a !=b),.no)
  | .lss=>some (.bool (decide (a<b)),.no)
  | .leq=>some (.bool (decide (a<=b)),.no)
  | .gtr=>some (.bool (decide (b<a)),.no)
  | .geq=>some (.bool (decide (b<=a)),.no)
  |_=>none
 | .u8 a,.u8 b=>match op with
  | .eql=>some (.bool (a==b),.no)
  | .neq=>some (.bool (a !=b),.no)
  | .lss=>some (.bool (decide (a<b)),.no)
  | .leq=>some (.bool (decide (a<=b)),.no)
  | .gtr=>some (.bool (decide (b<a)),.no)
  | .geq=>some (.bool (decide (b<=a)),.no)
  |_=>none
 | .str a,.str b=>match op with
  | .eql=>some (.bool (a==b),.no)
  | .neq=>some (.bool (!(a==b)),.no)
  | .add=>some (.str (a++b),.yes (a.length+b.length<=9223372036854775807))
  |_=>none
 | .raw (.lit (.int .u64 a)),.raw (.lit (.int .u64 b))=>match op with
  | .shr=>some (.raw (.lit (.int .u64 (TK a b))),.yes (0<=b))
  | .and=>some (.raw (.lit (.int .u64 (adN .u64 a b))),.no)
  | .rem=>some (.raw (.lit (.int .u64 (a.tmod b))),.yes (b≠0))
  | .eql=>some (.bool (a==b),.no)
  | .geq=>some (.bool (decide (b<=a)),.no)
  |_=>none
 |_,_=>none
def CV:X->Bool
 | .c (.lit (.bool true))=>true
 |_=>false
def zk:X->Bool
 | .c (.lit (.bool false))=>true
 |_=>false
def adr(t:Bool)(xa xb:X):V->V->Option V
 | .bool x,.bool y=>bif CV xa then some (.bool (t||y)) else bif zk xb then some (.bool (t&&x)) else some (.bool (bif t then x else y))
 | .int x,.int y=>some (.int (bif t then x else y))
 | .str x,.str y=>some (.str (bif t then x else y))
 |_,_=>none
def ZC(t:Bool)(xa xb:X)(a b:V×Sd):Au :=
 match a,b with
 |(a,sa),(b,sb)=>match adr t xa xb a b with
  |some v=>some (v,(sa.imp t true).and (sb.imp t false))
  |none=>none
def dJ{α:Type}(b:Bool)(x:Option α):Option α:=bif b then x else none
def V.UC(k:Nat):Option V->Au
 |some u=>some (.ref k u,.no)
 |none=>none
def V.Je:Option V->Au
 |some u=>some (u,.no)
 |none=>none
def faZ(h:Hz)(off k:Nat):V->Au
 | .ref kt v=>dJ (!(Nat.beq kt 0)&&oh (bg kt) off k) (V.UC k (v.part off k))
 | .ptr i j o=>dJ (h.get i).isSome (some (.ptr i j (o+off),.no))
 |_=>none
def fvZ(off k:Nat)(v:V):Au :=
 match v.kd with
 |some kt=>dJ (!(Nat.beq kt 0)&&oh (bg kt) off k) (V.Je (v.part off k))
 |none=>none
def aen:List V->Nat->Option V
 |[],_=>none
 |v::_,0=>some v
 |_::r,n+1=>aen r n
def iaZ(h:Hz)(k:Nat):V->V->Au
 | .G9 k' _ l,.int n=>match aen l n.toNat with
  |some v=>dJ (Nat.beq k' k) (some (.ref k v,.yes (0<=n)))
  |none=>none
 | .row k' _ r,.int n=>dJ (Nat.beq k' k) (some (.ref k (r.get n.toNat),.yes (r.rng n)))
 | .own o,.int n=>match h.get o with
  |some (.row _ k' r [])=>dJ (Nat.beq k' k) (some (.ptr o n.toNat 0,.yes (r.rng n)))
  |some (.gen _ k' x)=>dJ (Nat.beq k' k) (some (.ptr o n.toNat 0,.yes (0<=n/\n<x.length)))
  |_=>none
 | .pq o lo hi,.int n=>match h.get o with
  |some (.row _ k' _ [])=>dJ (Nat.beq k' k) (some (.ptr o (lo+n.toNat) 0,.yes (0<=n/\n<(hi-lo:Nat))))
  |_=>none
 |_,_=>none
def chZ:V->V->Au
 | .str s,.int n=>some (.u8 (s.getD n.toNat 0).toNat,.yes (0<=n/\n<s.length))
 | .str s,.u8 n=>some (.u8 (s.getD n.toNat 0).toNat,.yes (0<=n/\n<s.length))
 |_,_=>none
def ldB(k j off ko:Nat)(v:V):Au :=
 bif Nat.beq j 0 then(bif Nat.beq off 0&&Nat.beq ko k then some (v,.no) else dJ (!(Nat.beq ko 0)&&oh (bg ko) off k) (V.Je (v.part off k))) else none
def ldR(k j off ko:Nat)(r:Rw):Au :=
 bif Nat.beq off 0&&Nat.beq ko k then some (r.get j,.yes (r.rng j)) else
  match (r.get j).part off k with
  |some u=>dJ (!(Nat.beq ko 0)&&oh (bg ko) off k) (some (u,.yes (r.rng j)))
  |none=>none
def ldZ(h:Hz)(k:Nat):V->Au
 | .ref k' v=>dJ (Nat.beq k' k&&Nat.blt 0 (bg k)) (some (v,.no))
 | .ptr i j off=>match h.get i with
  |some (.box _ ko v)=>ldB k j off ko v
  |some (.row _ ko r [])=>ldR k j off ko r
  |_=>none
 |_=>none
def ncZ(h:Hz):V->Au
 | .ref k v=>some (.ref k v,.no)
 | .ptr i j o=>dJ (h.get i).isSome (some (.ptr i j o,.no))
 | .fn f l=>some (.fn f l,.no)
 |_=>none
def abV(h:Hz)(str:Bool):V->Au
 | .row _ _ r=>dJ (!str) (some (r.lenV,.no))
 | .G9 _ _ l=>dJ (!str) (some (.int l.length,.no))
 | .str s=>dJ str (some (.int s.length,.no))
 | .own o=>match h.get o with
  |some (.row _ k r x)=>dJ (!str&& !(Nat.beq k fM)) (match x with|[]=>some (r.lenV,.no)|x=>some (.int (r.len+x.length),.no))
  |some (.gen _ k x)=>dJ (!str&& !(Nat.beq k fM)) (some (.int x.length,.no))
  |_=>none
 | .pq o lo hi=>dJ (!str&&(h.get o).isSome) (some (.int (hi-lo:Nat),.no))
 |_=>none
def mxZ:V->V->Au
 | .int a,.int b=>some (.int (max a b),.no)
 |_,_=>none
def mnZ:V->V->Au
 | .int a,.int b=>some (.int (min a b),.no)
 |_,_=>none
def BG(m:Fm):List X->Option (List V×Sd)
 |[]=>some ([],.no)
 |x::r=>match Am m x,BG m r with
  |some v,some (l,s)=>match v.bare with|(u,s')=>some (u::l,s'.and s)
  |_,_=>none
def VE:List (Nat×Nat×X)->List V->List V->Option (List V)
 |[],[],z=>some z
 |(off,n,_)::ps,v::vs,z=>match v.cells with
  |some c=>dJ (Nat.beq c.length n&&Nat.ble (off+n) z.length) (VE ps vs (z.take off++c++z.drop (off+n)))
  |none=>none
 |_,_,_=>none
def DI(h:Hz):List V->Bool
 |[]=>true
 |v::r=>v.jW h&&DI h r
def mkZ(m:Fm)(h:Hz)(z:List T)(ps:List (Nat×Nat×X)):Au :=
 match BG m (ps.map fun p=>p.2.2) with
 |some (vs,s)=>match VE ps vs (YC z) with
  |some l=>dJ (DI h vs) (some (.agg l,s))
  |none=>none
 |none=>none
def ER(k:Nat):List V->Bool
 |[]=>true
 |v::r=>(match v.kd with|some k'=>Nat.beq k' k|none=>false)&&ER k r
def ZE(n:Nat):List (Nat×X)->List V->List V->Option (List V)
 |[],[],z=>some z
 |(i,_)::ps,v::vs,z=>dJ (Nat.blt i n) (ZE n ps vs (z.set i v))
 |_,_,_=>none
def msZ(m:Fm)(h:Hz)(k:Nat)(z:T)(n:Nat)(ps:List (Nat×X)):Au :=
 match BG m (ps.map fun p=>p.2) with
 |some (vs,s)=>match ZE n ps vs (List.replicate n (EF z)) with
  |some l=>dJ ((z.kd==k)&&z.free&&ER k vs&&DI h vs&&V.bZ vs&&Nat.ble (n*bg k) 16777216&&Nat.blt 0 (bg k))
    (match Rw.YC l with
    |some r=>some (.row k true r,s)
    |none=>some (.G9 k true l,s))
  |none=>none
 |none=>none
def kOk(k k':Nat):Rw->Bool
 | .nil=>true
 |_=>Nat.beq k' k
def KA(m:Fm):Option X->Option (Option V×Sd)
 |none=>some (none,.no)
 |some x=>match Am m x with
  |some v=>match v.bare with|(u,s)=>some (some u,s)
  |none=>none
def ZF(k k':Nat)(f:Bool)(r:Rw):Option V->Option V->Option V->Au
 |none,none,none=>dJ (kOk k k' r) (some (.row k f r,.no))
 |some (.int a),none,none=>dJ (kOk k k' r) (some (.row k f (r.drop a.toNat),.yes (r.rJ a)))
 |none,some (.int b),none=>dJ (kOk k k' r) (some (.row k (f&&decide (b=r.len)) (r.take b.toNat),.yes (r.rJ b)))
 |some (.int a),some (.int b),none=>dJ (kOk k k' r) (some (.row k false ((r.take b.toNat).drop a.toNat),.yes (0<=a/\a<=b/\r.rJ b)))
 |none,some (.int b),some (.int c)=>dJ (kOk k k' r) (some (.row k (decide (b=c)) (r.take b.toNat),.yes (0<=b/\b<=c/\r.rJ c)))
 |_,_,_=>none
def ZG(k i ko:Nat)(r:Rw):Option V->Option V->Option V->Au
 |some (.int a),none,none=>dJ (Nat.beq ko k) (some (.pq i a.toNat r.len,.yes (r.rJ a)))
 |none,some (.int b),none=>dJ (Nat.beq ko k) (some (.pq i 0 b.toNat,.yes (r.rJ b)))
 |some (.int a),some (.int b),none=>dJ (Nat.beq ko k) (some (.pq i a.toNat b.toNat,.yes (0<=a/\a<=b/\r.rJ b)))
 |_,_,_=>none
def UD(k i ko:Nat)(r:Rw)(xs:List V):Option V->Option V->Option V->Au
 |none,some (.int b),none=>dJ (Nat.beq ko k) (some (.pq i 0 b.toNat,.yes (r.rJ b)))
 |lo,hi,mx=>match xs with|[]=>ZG k i ko r lo hi mx|_=>none
def slZ(h:Hz)(x:Bool)(k:Nat)(v:V)(lo hi mx:Option V):Au :=
 match v with
 | .row k' f r=>ZF k k' f r lo hi mx
 | .own i=>bif x then(match h.get i with
  |some (.row _ ko r xs)=>UD k i ko r xs lo hi mx
  |_=>none) else none
 |_=>none
def slX(m:Fm)(h:Hz)(b:Bool)(k:Nat)(x:X)(lo hi mx:Option X):Au :=
 Nw m x fun v=>match KA m lo,KA m hi,KA m mx with
  |some (lo,s1),some (hi,s2),some (mx,s3)=>match slZ h b k v lo hi mx with
   |some (u,s)=>some (u,s1.and (s2.and (s3.and s)))
   |none=>none
  |_,_,_=>none
def ssZ(s:Str):Option V->Option V->Au
 |some (.int a),none=>some (.str (s.drop a.toNat),.yes (0<=a/\a<=s.length))
 |none,some (.int b)=>some (.str (s.take b.toNat),.yes (0<=b/\b<=s.length))
 |some (.int a),some (.int b)=>some (.str ((s.take b.toNat).drop a.toNat),.yes (0<=a/\a<=b/\b<=s.length))
 |_,_=>none
def ssX(m:Fm)(x:X)(lo hi:Option X):Au :=
 Nw m x fun v=>match v,KA m lo,KA m hi with
  | .str s,some (lo,s1),some (hi,s2)=>match ssZ s lo hi with
   |some (u,s)=>some (u,s1.and (s2.and s))
   |none=>none
  |_,_,_=>none
def exZ(i:Nat):V->Au
 | .dn l=>match l[i]? with|some v=>some (v,.no)|none=>none
 |_=>none
def aeo(ne:Bool)(n:Nat):V->V->Au
 | .dat (.lin x),.dat (.lin y)=>dJ (Nat.beq n 4) (some (.bool (bif ne then !(x==y) else x==y),.no))
 | .dat (.Tt x),.dat (.Tt y)=>dJ (Nat.beq n 6) (some (.bool (bif ne then !(x==y) else x==y),.no))
 |_,_=>none
def Ip(n:Int):List (Int×List Bool)->Option (List Bool)
 |[]=>none
 |(m,v)::r=>bif n==m then some v else Ip n r
def mfZ(m:Fm)(h:Hz)(f:FuncId)(cap:List X):Au :=
 match BG m cap with
 |some (l,s)=>dJ (DI h l&&ER 0 l&&Nat.blt f 4096) (some (.fn f l,s))
 |none=>none
def mbZ(f:FuncId):V->Au
 | .agg l=>dJ (Nat.blt f 4096) (some (.fn (f+4096) l,.no))
 | .dat d=>dJ (Nat.blt f 4096) (some (.fn (f+4096) d.cells,.no))
 |_=>none
def aep:V->Au
 | .row _ true r=>some (r.lenV,.no)
 |_=>none
def saZ(n:Nat):V->Au
 | .ref k (.agg l)=>match Rw.YC l with
  |some r=>dJ (Nat.beq k (n+1)&&Nat.beq l.length n&&Nat.blt 0 n) (some (.row 0 true r,.no))
  |none=>none
 |_=>none
def qz(m:Fm)(h:Hz):nR->Au
 | .mv x=>match Am m x with|some v=>some (v,.no)|none=>none
 | .pick c a b=>Nw m c fun c=>match c,Am m a,Am m b with
  | .bool t,some va,some vb=>ZC t a b va.bare vb.bare
  |_,_,_=>none
 | .bin op x y=>qz2 m x y (aem op)
 | .bb ne x y=>qz2 m x y fun x y=>match x,y with
  | .bool a,.bool b=>some (.bool (bif ne then !(a==b) else a==b),.no)
  |_,_=>none
 | .not x=>Nw m x fun v=>match v with| .bool b=>some (.bool !b,.no)|_=>none
 | .conv .i64 x=>Nw m x fun v=>match v with
  | .int n=>some (.int n,.yes (okI n))
  | .u8 n=>some (.int n,.yes (okI n))
  | .raw (.lit (.int .u64 n))=>some (.int n,.yes (okI n))
  |_=>none
 | .conv .u64 x=>Nw m x fun v=>match v with
  | .int n=>some (.raw (.lit (.int .u64 n)),.yes (0<=n/\n<18446744073709551616))
  | .raw (.lit (.int .i64 n))=>some (.raw (.lit (.int .u64 (IntKind.u64.wrap n))),.no)
  |_=>none
 | .conv .u8 x=>Nw m x fun v=>match v with
  | .raw (.lit (.int .u64 n))=>some (.u8 n,.yes (0<=n/\n<256))
  |_=>none
 | .fa off k x=>Nw m x (faZ h off k)
 | .fv off k x=>Nw m x (fvZ off k)
 | .ia k x i=>qz2 m x i (iaZ h k)
 | .ch x i=>qz2 m x i chZ
 | .ld k x=>Nw m x (ldZ h k)
 | .nc x=>Nw m x (ncZ h)
 | .len s x=>Nw m x (abV h s)
 | .mx x y=>qz2 m x y mxZ
 | .mn x y=>qz2 m x y mnZ
 | .mk z ps=>mkZ m h z ps
 | .ms _ k z n ps=>msZ m h k z n ps
 | .sl k x lo hi mx=>slX m h false k x lo hi mx
 | .Yz k x lo hi mx=>slX m h true k x lo hi mx
 | .ss x lo hi=>ssX m x lo hi
 | .ex x i=>Nw m x (exZ i)
 | .mf f cap=>mfZ m h f cap
 | .eqs ne n x y=>qz2 m x y (aeo ne n)
 | .Oj x=>Nw m x aep
 | .mb f x=>Nw m x (mbZ f)
 | .sa n x=>Nw m x (saZ n)
 |_=>none
theorem ads(b:ByteArray):eS b.data.toList= .lit (.string b):=by
 unfold eS bs; simp
mutual
theorem yj:(t:T)->(EF t).aG=t
 | .lit v=>by
  cases v with
  |int k n=>cases k<;>simp[EF,V.aG]
  |bool b=>simp[EF,V.aG]
  |string b=>simp only[EF,V.aG]; exact ads b
  |_=>simp[EF,V.aG]
 | .agg l=>by simp only[EF,V.aG]; rw[zU l]
 | .sl k f l=>by cases l<;>simp[EF,V.aG,Rw.aT]
 | .ref k t=>by simp[EF,V.aG]
 | .own i=>by simp[EF,V.aG]
 | .ptr i j k=>by simp[EF,V.aG]
 | .pq i j k=>by simp[EF,V.aG]
 | .fn f l=>by simp only[EF,V.aG]; rw[zU l]
 | .dn l=>by simp[EF,V.aG]
 | .any=>by simp[EF,V.aG]
theorem zU:(l:List T)->V.aT (YC l)=l
 |[]=>rfl
 |t::r=>by simp only[YC,V.aT]; rw[yj t,zU r]
end
theorem iK(l:List V):V.aT l=l.map V.aG:=by
 induction l with
 |nil=>rfl
 |cons v r ih=>simp[V.aT,ih]
theorem dM(l:List V):(V.aT l).length=l.length:=by rw[iK]; simp
theorem xB(a b:List V):V.aT (a++b)=V.aT a++V.aT b:=by simp[iK]
theorem KC(a:List V)(n:Nat):V.aT (a.take n)=(V.aT a).take n:=by simp[iK]
theorem KD(a:List V)(n:Nat):V.aT (a.drop n)=(V.aT a).drop n:=by simp[iK]
def Rp(m:Fm)(fr:List T):Prop:= ∀ i v,m.get i=some v->fr[i]? =some v.aG
theorem Rp.getD{m:Fm}{fr:List T}(R:Rp m fr){i:Nat}{v:V}{d:T}(h:m.get i=some v):fr.getD i d=v.aG:=by
 rw[List.getD_eq_getElem?_getD,R i v h]; rfl
theorem Rp.ev{m:Fm}{s:AS}(R:Rp m s.fr){x:X}{v:V}(h:Am m x=some v):s.ev x=v.aG:=by
 cases x with
 |t n=>exact R.getD h
 |c t=>simp only[Am,Option.some.injEq] at h; subst h; exact(yj t).symm
theorem dN{v u:V}{s:Sd}(h:v.bare=(u,s))(hs:s.holds):v.aG=u.aG:=by
 unfold V.bare at h;split at h
 ·cases h; simp only[Sd.holds] at hs; simp[V.aG,hs]
 ·cases h; rfl
theorem Sd.lC{a b:Sd}:(a.and b).holds↔a.holds/\b.holds:=by cases a<;>cases b<;>simp[Sd.and,Sd.holds]
theorem Sd.Ny{t b:Bool}{s:Sd}:(s.imp t b).holds↔(t=b->s.holds):=by cases s<;>simp[Sd.imp,Sd.holds]
theorem jR{m:Fm}{s:AS}(R:Rp m s.fr){x:X}{f:V->Au}{r:V}{sd:Sd}(h:Nw m x f=some (r,sd))(hs:sd.holds): ∃ u s',f u=some (r,s')/\s'.holds/\s.ev x=u.aG:=by
 unfold Nw at h;split at h
 ·rename_i v hv;split at h;rename_i u s0 hb;split at h
  ·rename_i r' s' hf;cases h;rw[Sd.lC] at hs;exact⟨u,s',hf,hs.2,by rw[R.ev hv,dN hb hs.1]⟩
  ·cases h
 ·cases h
theorem zV{m:Fm}{s:AS}(R:Rp m s.fr){x y:X}{f:V->V->Au}{r:V}{sd:Sd}(h:qz2 m x y f=some (r,sd))(hs:sd.holds): ∃ u v s',f u v=some (r,s')/\s'.holds/\s.ev x=u.aG/\s.ev y=v.aG:=by
 obtain⟨u,s',h1,h2,h3⟩:=jR R h hs;obtain⟨v,s'',h4,h5,h6⟩:=jR R h1 h2;exact⟨u,v,s'',h4,h5,h3,h6⟩
theorem aS{α:Type}{b:Bool}{x:Option α}{y:α}(h:dJ b x=some y):b=true/\x=some y:=by
 cases b<;>simp[dJ] at h; exact⟨rfl,h⟩
theorem afL{n:Int}(h1:0<=n)(h2:n<18446744073709551616):IntKind.u64.wrap n=n:=by
 have e:IntKind.u64.wrap n=(if(false&&decide (n % 18446744073709551616>=9223372036854775808))=true then n % 18446744073709551616-18446744073709551616 else n % 18446744073709551616):=rfl;rw[e];simp only[Bool.false_and,Bool.false_eq_true,if_false];omega
theorem aer{n:Int}(h1:0<=n)(h2:n<256):IntKind.u8.wrap n=n:=by
 have e:IntKind.u8.wrap n=(if(false&&decide (n % 256>=128))=true then n % 256-256 else n % 256):=rfl;rw[e];simp only[Bool.false_and,Bool.false_eq_true,if_false];omega
theorem VF{n:Int}(h:okI n):IntKind.i64.wrap n=n:=wrap64 h.1 h.2
theorem Rw.eF(r:Rw):r.aT.length=r.len:=by cases r<;>simp[Rw.aT,Rw.len]
theorem Rw.OX(r:Rw):r.lenV= .int r.len:=by cases r<;>rfl
theorem Rw.zW{n:Int}{r:Rw}:r.rng n↔(0<=n/\n<r.len):=by cases r<;>simp[Rw.rng,Rw.len]<;>omega
theorem Rw.uO{n:Int}{r:Rw}:r.rJ n↔(0<=n/\n<=r.len):=by cases r<;>simp[Rw.rJ,Rw.len]<;>omega
theorem getD_map'{α:Type}{f:α->T}{l:List α}{i:Nat}{d:α}(h:i<l.length):(l.map f).getD i .any=f (l.getD i d):=by
 simp[List.getD_eq_getElem?_getD,h]
theorem Rw.OY{r:Rw}{i:Nat}(h:i<r.len):r.aT.getD i .any=(r.get i).aG:=by
 cases r<;>simp only[Rw.len] at h<;>simp only[Rw.aT,Rw.get,V.aG,Dat.aG,Rw.aT]<;>first|exact getD_map' h|omega
theorem Rw.FC(r:Rw)(n:Nat):(r.take n).aT=r.aT.take n:=by cases r<;>simp[Rw.take,Rw.aT]
theorem Rw.QX(r:Rw)(n:Nat):(r.drop n).aT=r.aT.drop n:=by cases r<;>simp[Rw.drop,Rw.aT]
theorem Rw.ZH(r:Rw):V.aT r.vs=r.aT:=by
 rw[iK];cases r<;>simp[Rw.vs,Rw.aT,V.aG,Dat.aG]
theorem Rw.Jf{a b c:Rw}(h:a.app b=some c):c.aT=a.aT++b.aT:=by
 unfold Rw.app at h;split at h<;>first|(cases h; done)|(cases h; simp[Rw.aT])
theorem V.abW{v:V}{r:Rw}(h:v.one=some r):r.aT=[v.aG]:=by
 unfold V.one at h;split at h<;>first|(cases h; done)|(cases h; simp[Rw.aT,V.aG,V.aT,Dat.aG,iE,Uz,Jd])
theorem Rw.zU: ∀ {l:List V} {r:Rw},Rw.YC l=some r->r.aT=V.aT l:=by
 intro l;induction l with
 |nil=>intro r h; cases h; rfl
 |cons v l ih =>
  intro r h;simp only[Rw.YC] at h;split at h
  ·rename_i a b h1 h2;rw[Rw.Jf h,V.abW h1,ih h2]; rfl
  ·cases h
theorem V.OZ{v:V}{k:Nat}(h:v.kd=some k):v.aG.kd=k:=by
 cases v with
 |dat d=>cases h; exact Dat.ael d
 |_=>simp only[V.kd,Option.some.injEq,reduceCtorEq] at h<;>subst h<;>simp[V.aG,T.kd,eS,dM]
theorem V.Hf{v:V}{l:List V}(h:v.cells=some l):v.aG.cells=V.aT l:=by
 cases v<;>simp only[V.cells,Option.some.injEq,reduceCtorEq] at h<;>subst h<;>simp[V.aG,Dat.He,T.cells,eS,V.aT]
theorem Hz.zl{h:Hz}{i:Nat}:(h.au i).isSome=(h.get i).isSome:=by simp[Hz.au]
theorem V.rY{h:Hz}{v:V}(hv:v.jW h=true):v.aG.jW h.au=true:=by
 cases v<;>simp only[V.jW,Bool.false_eq_true] at hv<;>simp[V.aG,T.jW,T.yT,eS,Value.oneCell',Hz.zl,hv]
 rename_i d;cases d<;>rfl
theorem V.ZI{h:Hz}{v:V}(hv:v.jW h=true)(hk:v.kd=some 0):v.aG.yT h.au=true:=by
 cases v<;>simp only[V.jW,Bool.false_eq_true] at hv<;>simp only[V.kd,Option.some.injEq,Nat.succ_ne_zero] at hk<;>simp[V.aG,T.yT,eS,Value.oneCell',Hz.zl,hv]
 rename_i d;cases d<;>cases hk
theorem Dat.free(d:Dat):d.aG.free=true:=by cases d<;>rfl
mutual
theorem V.og:(v:V)->v.free=true->v.aG.free=true
 | .int _,_=>by simp[V.aG,T.free]
 | .bool _,_=>by simp[V.aG,T.free]
 | .u8 _,_=>by simp[V.aG,T.free]
 | .str _,_=>by simp[V.aG,T.free,eS]
 | .dat d,_=>by simp only[V.aG]; exact d.free
 | .agg l,h=>by simp only[V.aG,T.free]; simp only[V.free] at h; exact V.iC l h
 | .row _ _ _,_=>by simp[V.aG,T.free]
 | .G9 _ _ _,_=>by simp[V.aG,T.free]
 | .ref _ _,_=>by simp[V.aG,T.free]
 | .own _,h=>by simp[V.free] at h
 | .inn _,h=>by simp[V.free] at h
 | .pin _ _ _,h=>by simp[V.free] at h
 | .ptr _ _ _,h=>by simp[V.free] at h
 | .pq _ _ _,h=>by simp[V.free] at h
 | .fn _ l,h=>by simp only[V.aG,T.free]; simp only[V.free] at h; exact V.iC l h
 | .dn l,h=>by simp only[V.aG,T.free]; simp only[V.free] at h; exact V.iC l h
 | .cnd _ _,h=>by simp[V.free] at h
 | .raw t,h=>by simp only[V.aG]; simpa only[V.free] using h
theorem V.iC:(l:List V)->V.bZ l=true->T.bZ (V.aT l)=true
 |[],_=>by simp[V.aT,T.bZ]
 |v::r,h=>by
  simp only[V.bZ,Bool.and_eq_true] at h;simp only[V.aT,T.bZ,Bool.and_eq_true];exact⟨V.og v h.1,V.iC r h.2⟩
end
theorem yt{l:List V}{i:Nat}{u:V}(h:l[i]? =some u):(V.aT l).getD i .any=u.aG:=by
 rw[iK,List.getD_eq_getElem?_getD,List.getElem?_map,h]; rfl
theorem V.FD{off k:Nat}{v u:V}(h:v.part off k=some u):v.aG.part off k=u.aG:=by
 unfold V.part at h;split at h
 ·simp only[V.aG,Dat.He,T.part,T.cells]; exact yt h
 ·simp only[V.aG,T.part,T.cells]; exact yt h
 ·rename_i k x;cases hb:(Nat.beq off 2)&&(Nat.beq k 4) with
  |false=>rw[hb] at h; cases h
  |true =>
   rw[hb] at h;simp only[Bool.and_eq_true,Nat.beq_eq] at hb;obtain⟨rfl,rfl⟩:=hb;cases h; rfl
 ·cases h;simp only[V.aG,T.part,T.cells,KC,KD]
 ·cases h
theorem fC{a b:Nat}(h:Nat.beq a b=true):a=b:=Nat.eq_of_beq_eq_true h
section
variable {m:Fm} {h:Hz} {s:AS}
def Ok(s:AS)(op:nR)(v:V):Prop:=qc s op/\qt s op=v.aG
theorem abX{op:BinOp}{x y:X}{u v r:V}{sd:Sd}(q:aem op u v=some (r,sd))(hs:sd.holds)(h1:s.ev x=u.aG)(h2:s.ev y=v.aG):Ok s (.bin op x y) r:=by
 unfold Ok; simp only[qc,qt]; rw[h1,h2];unfold aem at q;split at q
 ·rename_i a b;split at q<;>first|(cases q; done)|(cases q; simp only[Sd.holds] at hs; simp[V.aG,Dj,kEq,VF,hs])
 ·split at q<;>first|(cases q; done)|(cases q; simp[V.aG,Dj,kEq])
 ·split at q
  ·cases q; simp[V.aG,Dj,eS,CU]
  ·cases q; simp[V.aG,Dj,eS,CU]
  ·rename_i a b _;cases q;simp only[Sd.holds] at hs;have hsz:(((bs a).size+(bs b).size:Nat):Int)<=9223372036854775807:=by
    have e1:(bs a).size=a.length:=by simp[bs,ByteArray.size]
    have e2:(bs b).size=b.length:=by simp[bs,ByteArray.size]
    rw[e1,e2]; exact Int.ofNat_le.2 hs
   have hap:bs a++bs b=bs (a++b):=by apply ByteArray.ext; simp[bs]
   have hsz2:((bs a).size:Int)+(bs b).size<=9223372036854775807:=by omega
   simp[V.aG,Dj,eS,hsz2,hap]
  ·cases q
 ·split at q
  ·cases q;simp only[Sd.holds] at hs;refine⟨?_,?_⟩
   ·simp only[V.aG,Dj,hs,decide_true,cond_true,Option.isSome]
   ·simp only[V.aG,Dj,hs,decide_true,cond_true]; rfl
  ·cases q; simp[V.aG,Dj,kEq]
  ·cases q;simp only[Sd.holds] at hs;simp[V.aG,Dj,kEq,hs]
  ·cases q; simp[V.aG,Dj,kEq]
  ·cases q; simp[V.aG,Dj,kEq]
  ·cases q
 ·cases q
theorem UE{x:X}(hx:CV x=true):x= .c (.lit (.bool true)):=by
 unfold CV at hx;split at hx
 ·rfl
 ·cases hx
theorem QY{x:X}(hx:zk x=true):x= .c (.lit (.bool false)):=by
 unfold zk at hx;split at hx
 ·rfl
 ·cases hx
theorem ZJ{c xa xb:X}{t:Bool}{va vb r:V}{sd:Sd}(R:Rp m s.fr)(ha:Am m xa=some va)(hb:Am m xb=some vb)(q:ZC t xa xb va.bare vb.bare=some (r,sd))(hs:sd.holds)(hc:s.ev c= .lit (.bool t)):Ok s (.pick c xa xb) r:=by
 unfold Ok; simp only[qc,qt]; rw[hc];refine⟨rfl,?_⟩;unfold ZC at q;split at q;rename_i a sa b sb ea eb;split at q
 ·rename_i v hp;cases q;rw[Sd.lC,Sd.Ny,Sd.Ny] at hs;have h1:t=true->s.ev xa=a.aG:=fun e=>by rw[R.ev ha,dN ea (hs.1 e)]
  have h2:t=false->s.ev xb=b.aG:=fun e=>by rw[R.ev hb,dN eb (hs.2 e)]
  unfold adr at hp;split at hp
  ·rename_i x y;have hp':r= .bool (bif CV xa then t||y else bif zk xb then t&&x else bif t then x else y):=by
    cases e1:CV xa<;>cases e2:zk xb<;>simp[e1,e2] at hp ⊢ <;>exact hp.symm
   subst hp';have key:AY (.lit (.bool t)) (s.ev xa) (s.ev xb)= .lit (.bool (bif t then x else y)):=by
    cases t with
    |true =>
     rw[h1 rfl]; simp only[V.aG,AY];split<;>simp_all
    |false =>
     rw[h2 rfl]; simp only[V.aG,AY];split<;>simp_all
   rw[key];simp only[V.aG]
   congr 2
   cases e1:CV xa with
   |true =>
    have:=UE e1; subst this;simp only[Am,Option.some.injEq] at ha; subst ha;simp only[EF,V.bare,Prod.mk.injEq] at ea;have:=ea.1; cases this;cases t<;>rfl
   |false =>
    cases e2:zk xb with
    |true =>
     have:=QY e2; subst this;simp only[Am,Option.some.injEq] at hb; subst hb;simp only[EF,V.bare,Prod.mk.injEq] at eb;have:=eb.1; cases this;cases t<;>simp
    |false=>rfl
  ·cases hp;cases t with
   |true=>rw[h1 rfl]; simp only[V.aG,AY,cond_true]
   |false=>rw[h2 rfl]; simp only[V.aG,AY,cond_false]; split<;>simp_all
  ·cases hp;cases t with
   |true=>rw[h1 rfl]; simp only[V.aG,AY,cond_true,eS]
   |false=>rw[h2 rfl]; simp only[V.aG,AY,cond_false,eS]; split<;>simp_all
  ·cases hp
 ·cases q
theorem UF{k:Nat}{p:Option V}{r:V}{sd:Sd}(q:V.UC k p=some (r,sd)): ∃ u,p=some u/\r= .ref k u:=by
 unfold V.UC at q;split at q
 ·cases q; exact⟨_,rfl,rfl⟩
 ·cases q
theorem Iq{p:Option V}{r:V}{sd:Sd}(q:V.Je p=some (r,sd)):p=some r:=by
 unfold V.Je at q;split at q
 ·cases q; rfl
 ·cases q
theorem ZK{k:Nat}(h:(!(Nat.beq k 0))=true):(!(k==0))=true:=by
 cases k<;>simp_all
theorem aes(hh:s.hp=h.au){off k:Nat}{x:X}{u r:V}{sd:Sd}(q:faZ h off k u=some (r,sd))(h1:s.ev x=u.aG):Ok s (.fa off k x) r:=by
 unfold Ok; simp only[qc,qt]; rw[h1];unfold faZ at q;split at q
 ·obtain⟨g,q⟩:=aS q;obtain⟨u,e,rfl⟩:=UF q;simp only[Bool.and_eq_true] at g;simp only[V.aG,V.FD e,Bool.and_eq_true];exact⟨⟨ZK g.1,g.2⟩,trivial⟩
 ·obtain⟨g,q⟩:=aS q;cases q;simp only[V.aG,hh,Hz.zl,g,and_self]
 ·cases q
theorem aeu{off k:Nat}{x:X}{u r:V}{sd:Sd}(q:fvZ off k u=some (r,sd))(h1:s.ev x=u.aG):Ok s (.fv off k x) r:=by
 unfold Ok; simp only[qc,qt]; rw[h1];unfold fvZ at q;split at q
 ·rename_i kt hk;obtain⟨g,q⟩:=aS q;rw[V.OZ hk,V.FD (Iq q)];simp only[Bool.and_eq_true] at g ⊢;exact⟨⟨ZK g.1,g.2⟩,trivial⟩
 ·cases q
theorem aP{i:Nat}{o:OV}(e:h.get i=some o):h.au i=some o.aA:=by simp[Hz.au,e]
theorem abY: ∀ {l:List V} {i:Nat} {v:V},aen l i=some v->i<l.length/\(V.aT l).getD i .any=v.aG:=by
 intro l;induction l with
 |nil=>intro i v h; cases h
 |cons u r ih =>
  intro i v h;cases i with
  |zero=>cases h; exact⟨Nat.succ_pos _,rfl⟩
  |succ i =>
   obtain⟨a,b⟩:=ih h;exact⟨Nat.succ_lt_succ a,by simpa [V.aT] using b⟩
theorem ZL(hh:s.hp=h.au){k:Nat}{x i:X}{u v r:V}{sd:Sd}(q:iaZ h k u v=some (r,sd))(hs:sd.holds)(h1:s.ev x=u.aG)(h2:s.ev i=v.aG):Ok s (.ia k x i) r:=by
 unfold Ok; simp only[qc,qt]; rw[h1,h2];unfold iaZ at q;split at q
 ·rename_i k' f l n;split at q
  ·rename_i v hv;obtain⟨g,q⟩:=aS q;cases q;have:=fC g; subst this;simp only[Sd.holds] at hs;obtain⟨a,b⟩:=abY hv;simp only[V.aG,Y4,dM];exact⟨⟨trivial,hs,by omega⟩,by rw[b]⟩
  ·cases q
 ·rename_i k' f w n;obtain⟨g,q⟩:=aS q;cases q;have:=fC g; subst this;simp only[Sd.holds,Rw.zW] at hs;simp only[V.aG,Y4,Rw.eF];refine⟨⟨trivial,hs⟩,?_⟩;rw[Rw.OY (by omega)]
 ·rename_i o n;split at q
  ·rename_i ty k' w e;obtain⟨g,q⟩:=aS q;cases q;have:=fC g; subst this;simp only[Sd.holds,Rw.zW] at hs;simp only[V.aG,hh,aP e,OV.aA,V.aT,List.append_nil,Y4,Rw.eF];exact⟨⟨trivial,hs⟩,trivial⟩
  ·rename_i ty k' x e;obtain⟨g,q⟩:=aS q;cases q;have:=fC g; subst this;simp only[Sd.holds] at hs;simp only[V.aG,hh,aP e,OV.aA,Y4,dM];exact⟨⟨trivial,hs⟩,trivial⟩
  ·cases q
 ·rename_i o lo hi n;split at q
  ·rename_i ty k' w e;obtain⟨g,q⟩:=aS q;cases q;have:=fC g; subst this;simp only[Sd.holds] at hs;simp only[V.aG,hh,aP e,OV.aA,Y4];exact⟨⟨trivial,hs⟩,trivial⟩
  ·cases q
 ·cases q
theorem aev{x i:X}{u v r:V}{sd:Sd}(q:chZ u v=some (r,sd))(hs:sd.holds)(h1:s.ev x=u.aG)(h2:s.ev i=v.aG):Ok s (.ch x i) r:=by
 unfold Ok; simp only[qc,qt]; rw[h1,h2];unfold chZ at q;split at q
 ·cases q;simp only[Sd.holds] at hs;simp only[V.aG,eS,Y4,zT,ZB];exact⟨hs,trivial⟩
 ·cases q;simp only[Sd.holds] at hs;simp only[V.aG,eS,Y4,zT,ZB];exact⟨hs,trivial⟩
 ·cases q
theorem UG(hh:s.hp=h.au){k:Nat}{x:X}{u r:V}{sd:Sd}(q:ldZ h k u=some (r,sd))(hs:sd.holds)(h1:s.ev x=u.aG):Ok s (.ld k x) r:=by
 unfold Ok; simp only[qc,qt]; rw[h1];unfold ldZ at q;split at q
 ·obtain⟨g,q⟩:=aS q;cases q;simp only[Bool.and_eq_true] at g;have:=fC g.1; subst this;simp[V.aG,g.2]
 ·rename_i i j off;split at q
  ·rename_i ty ko v e;simp only[V.aG,hh,aP e,OV.aA];unfold ldB at q;cases hj:Nat.beq j 0 with
   |false=>rw[hj] at q; cases q
   |true =>
    have:=fC hj; subst this;rw[hj] at q;simp only[cond_true] at q;cases hb:(Nat.beq off 0&&Nat.beq ko k) with
    |true =>
     rw[hb] at q; cases q;simp only[Bool.and_eq_true] at hb;have e1:=fC hb.1; have e2:=fC hb.2; subst e1; subst e2;simp
    |false =>
     rw[hb] at q;simp only[cond_false] at q;obtain⟨g,q⟩:=aS q;have hb':(off==0&&ko==k)=false:=by
      rw[Bool.and_eq_false_iff] at hb ⊢;rcases hb with hb|hb
      ·left; simpa using Nat.ne_of_beq_eq_false hb
      ·right; simpa using Nat.ne_of_beq_eq_false hb
     simp only[hb',cond_false,Bool.false_or,List.getD_cons_zero,V.FD (Iq q),List.length_cons,List.length_nil];simp only[Bool.and_eq_true] at g ⊢;exact⟨⟨by omega,ZK g.1,g.2⟩,trivial⟩
  ·rename_i ty ko w e;simp only[V.aG,hh,aP e,OV.aA,V.aT,List.append_nil];unfold ldR at q;cases hb:(Nat.beq off 0&&Nat.beq ko k) with
   |true =>
    rw[hb] at q; cases q;simp only[Bool.and_eq_true] at hb;have e1:=fC hb.1; have e2:=fC hb.2; subst e1; subst e2;simp only[Sd.holds,Rw.zW] at hs;have hlt:j<w.len:=by omega
    simp only[BEq.rfl,Bool.and_self,Bool.true_or,cond_true,Rw.eF,Rw.OY hlt];exact⟨⟨hlt,trivial⟩,trivial⟩
   |false =>
    rw[hb] at q;simp only[cond_false] at q;split at q
    ·rename_i u hu;obtain⟨g,q⟩:=aS q;cases q;have hb':(off==0&&ko==k)=false:=by
      rw[Bool.and_eq_false_iff] at hb ⊢;rcases hb with hb|hb
      ·left; simpa using Nat.ne_of_beq_eq_false hb
      ·right; simpa using Nat.ne_of_beq_eq_false hb
     simp only[Sd.holds,Rw.zW] at hs;have hlt:j<w.len:=by omega
     simp only[hb',cond_false,Bool.false_or,Rw.eF,Rw.OY hlt,V.FD hu];simp only[Bool.and_eq_true] at g ⊢;exact⟨⟨hlt,ZK g.1,g.2⟩,trivial⟩
    ·cases q
  ·cases q
 ·cases q
theorem aew(hh:s.hp=h.au){x:X}{u r:V}{sd:Sd}(q:ncZ h u=some (r,sd))(h1:s.ev x=u.aG):Ok s (.nc x) r:=by
 unfold Ok; simp only[qc,qt]; rw[h1];unfold ncZ at q;split at q
 ·cases q; simp[V.aG]
 ·obtain⟨g,q⟩:=aS q; cases q; simp[V.aG,hh,Hz.zl,g]
 ·cases q; simp[V.aG]
 ·cases q
theorem VG(hh:s.hp=h.au){str:Bool}{x:X}{u r:V}{sd:Sd}(q:abV h str u=some (r,sd))(h1:s.ev x=u.aG):Ok s (.len str x) r:=by
 unfold Ok; simp only[qc,qt]; rw[h1];unfold abV at q;split at q
 ·obtain⟨g,q⟩:=aS q; cases q;simp only[Bool.not_eq_true'] at g;simp[V.aG,Rw.OX,Rw.eF,g]
 ·obtain⟨g,q⟩:=aS q; cases q;simp only[Bool.not_eq_true'] at g;simp[V.aG,dM,g]
 ·obtain⟨g,q⟩:=aS q; cases q;simp[V.aG,eS,zT,g]
 ·rename_i o;split at q
  ·rename_i ty k w y e;obtain⟨g,q⟩:=aS q;simp only[Bool.and_eq_true,Bool.not_eq_true'] at g;have hk:k≠fM:=Nat.ne_of_beq_eq_false g.2;split at q
   ·cases q;simp only[V.aG,hh,aP e,OV.aA,V.aT,List.append_nil,Rw.OX,Rw.eF];exact⟨⟨g.1,hk⟩,trivial⟩
   ·cases q;simp only[V.aG,hh,aP e,OV.aA,List.length_append,dM,Rw.eF];exact⟨⟨g.1,hk⟩,by simp⟩
  ·rename_i ty k x e;obtain⟨g,q⟩:=aS q;cases q;simp only[Bool.and_eq_true,Bool.not_eq_true'] at g;simp only[V.aG,hh,aP e,OV.aA,dM];exact⟨⟨g.1,Nat.ne_of_beq_eq_false g.2⟩,trivial⟩
  ·cases q
 ·rename_i o lo hi;obtain⟨g,q⟩:=aS q; cases q;simp only[Bool.and_eq_true,Bool.not_eq_true'] at g;simp[V.aG,hh,Hz.zl,g]
 ·cases q
theorem aex{x y:X}{u v r:V}{sd:Sd}(q:mxZ u v=some (r,sd))(h1:s.ev x=u.aG)(h2:s.ev y=v.aG):Ok s (.mx x y) r:=by
 unfold Ok; simp only[qc,qt]; rw[h1,h2];unfold mxZ at q;split at q
 ·rename_i a b;cases q; simp only[V.aG,true_and]; congr 2; split<;>omega
 ·cases q
theorem aey{x y:X}{u v r:V}{sd:Sd}(q:mnZ u v=some (r,sd))(h1:s.ev x=u.aG)(h2:s.ev y=v.aG):Ok s (.mn x y) r:=by
 unfold Ok; simp only[qc,qt]; rw[h1,h2];unfold mnZ at q;split at q
 ·rename_i a b;cases q; simp only[V.aG,true_and]; congr 2; split<;>omega
 ·cases q
theorem aez{i:Nat}{x:X}{u r:V}{sd:Sd}(q:exZ i u=some (r,sd))(h1:s.ev x=u.aG):Ok s (.ex x i) r:=by
 unfold Ok; simp only[qc,qt]; rw[h1];unfold exZ at q;split at q
 ·split at q
  ·rename_i l _ v e;cases q;have hi:i<l.length:=(List.getElem?_eq_some_iff.1 e).1;simp only[V.aG,Nat.blt_eq,dM,yt e];exact⟨hi,trivial⟩
  ·cases q
 ·cases q
theorem abZ{ne:Bool}{n:Nat}{x y:X}{u v r:V}{sd:Sd}(q:aeo ne n u v=some (r,sd))(h1:s.ev x=u.aG)(h2:s.ev y=v.aG):Ok s (.eqs ne n x y) r:=by
 unfold Ok; simp only[qc,qt]; rw[h1,h2];unfold aeo at q;split at q
 ·rename_i x y;obtain⟨g,q⟩:=aS q; cases q;have:=fC g; subst this;have e:tY [.int x.c,.int x.n,.int x.t,.int x.f] [.int y.c,.int y.n,.int y.t,.int y.f]=(x==y):=by
   cases x; cases y; simp[tY,BEq.beq]
  simp only[V.aG,Dat.aG,Uy,e];exact⟨rfl,trivial⟩
 ·rename_i x y;obtain⟨g,q⟩:=aS q; cases q;have:=fC g; subst this;have e:tY [.int x.message,.int x.Fz,.int x.bound.c,.int x.bound.n,.int x.bound.t,.int x.bound.f] [.int y.message,.int y.Fz,.int y.bound.c,.int y.bound.n,.int y.bound.t,.int y.bound.f]=(x==y):=by
   obtain⟨a,b,c,d,e,f⟩:=x; obtain⟨a',b',c',d',e',f'⟩:=y; simp[tY,BEq.beq]
  simp only[V.aG,Dat.aG,QT,e];exact⟨rfl,trivial⟩
 ·cases q
theorem aeA{n:Nat}{x:X}{u r:V}{sd:Sd}(q:saZ n u=some (r,sd))(h1:s.ev x=u.aG):Ok s (.sa n x) r:=by
 unfold Ok; simp only[qc,qt]; rw[h1];unfold saZ at q;split at q
 ·rename_i k l;split at q
  ·rename_i w hw;obtain⟨g,q⟩:=aS q; cases q;simp only[V.aG,dM];exact⟨g,by rw[Rw.zU hw]⟩
  ·cases q
 ·cases q
theorem ab1{x:X}{u r:V}{sd:Sd}(q:aep u=some (r,sd))(h1:s.ev x=u.aG):Ok s (.Oj x) r:=by
 unfold Ok; simp only[qc,qt]; rw[h1];unfold aep at q;split at q
 ·cases q; simp[V.aG,Rw.OX,Rw.eF]
 ·cases q
end
section
variable {m:Fm} {h:Hz} {s:AS}
theorem rZ(R:Rp m s.fr): ∀ {xs:List X} {l:List V} {sd:Sd},BG m xs=some (l,sd)->sd.holds->xs.map s.ev=V.aT l:=by
 intro xs;induction xs with
 |nil=>intro l sd q _; cases q; rfl
 |cons x r ih =>
  intro l sd q hs;simp only[BG] at q;split at q
  ·rename_i v l' s' h1 h2;cases q;rw[Sd.lC] at hs;simp only[List.map_cons,V.aT];rw[R.ev h1,dN (v:=v) (u:=v.bare.1) (s:=v.bare.2) rfl hs.1,ih h2 hs.2]
  ·cases q
theorem Hg: ∀ {l:List V},DI h l=true->wQ h.au (V.aT l)=true:=by
 intro l;induction l with
 |nil=>intro _; rfl
 |cons v r ih =>
  intro q;simp only[DI,Bool.and_eq_true] at q;simp only[V.aT,wQ,Bool.and_eq_true];exact⟨V.rY q.1,ih q.2⟩
theorem Jg{k:Nat}: ∀ {l:List V},ER k l=true-> ∀ v∈l,v.kd=some k:=by
 intro l;induction l with
 |nil=>intro _ v hv; cases hv
 |cons u r ih =>
  intro q v hv;simp only[ER,Bool.and_eq_true] at q;rcases List.mem_cons.1 hv with rfl|hv
  ·have:=q.1;split at this
   ·rename_i k' e; rw[e,fC this]
   ·cases this
  ·exact ih q.2 v hv
theorem Xu: ∀ {l:List V},DI h l=true->ER 0 l=true->zL h.au (V.aT l)=true:=by
 intro l;induction l with
 |nil=>intro _ _; rfl
 |cons v r ih =>
  intro q k;have hk:=Jg k v (by simp);simp only[DI,ER,Bool.and_eq_true] at q k;simp only[V.aT,zL,Bool.and_eq_true];exact⟨V.ZI q.1 hk,ih q.2 k.2⟩
theorem ZM: ∀ {ps:List (Nat×Nat×X)} {vs z l:List V},VE ps vs z=some l->(ps.map fun p=>s.ev p.2.2)=V.aT vs ->
  Gz (V.aT z) (ps.map fun p=>(p.1,p.2.1,s.ev p.2.2))=true/\Ie (V.aT z) (ps.map fun p=>(p.1,p.2.1,s.ev p.2.2))=V.aT l:=by
 intro ps;induction ps with
 |nil =>
  intro vs z l q he;cases vs with
  |nil=>cases q; exact⟨rfl,rfl⟩
  |cons v vs=>simp[V.aT] at he
 |cons p ps ih =>
  intro vs z l q he;obtain⟨off,n,x⟩:=p;cases vs with
  |nil=>simp[V.aT] at he
  |cons v vs =>
   simp only[VE] at q;split at q
   ·rename_i c hc;obtain⟨g,q⟩:=aS q;simp only[List.map_cons,V.aT,List.cons.injEq] at he;simp only[Bool.and_eq_true] at g;have e1:=fC g.1;obtain⟨i1,i2⟩:=ih q he.2;simp only[List.map_cons,Gz,Ie,Bool.and_eq_true];have ec:(s.ev x).cells=V.aT c:=by rw[he.1]; exact V.Hf hc
    simp only[xB,KC,KD] at i1 i2;simp only[ec,dM];refine⟨⟨⟨by simpa using e1,g.2⟩,i1⟩,i2⟩
   ·cases q
theorem aeB(R:Rp m s.fr)(hh:s.hp=h.au){z:List T}{ps:List (Nat×Nat×X)}{r:V}{sd:Sd}(q:mkZ m h z ps=some (r,sd))(hs:sd.holds):Ok s (.mk z ps) r:=by
 unfold mkZ at q;split at q
 ·rename_i vs s' hb;split at q
  ·rename_i l hl;obtain⟨g,q⟩:=aS q;cases q;have he:=rZ R hb hs;have he':(ps.map fun p=>s.ev p.2.2)=V.aT vs:=by rw[<- he]; simp
   obtain⟨i1,i2⟩:=ZM hl he';rw[zU] at i1 i2;unfold Ok; simp only[qc,qt];rw[i1,i2,he',hh,Hg g];exact⟨rfl,rfl⟩
  ·cases q
 ·cases q
theorem VH{k n:Nat}: ∀ {ps:List (Nat×X)} {vs z l:List V},ZE n ps vs z=some l->(ps.map fun p=>s.ev p.2)=V.aT vs->ER k vs=true ->
  JC k n (ps.map fun p=>(p.1,s.ev p.2))=true/\rU (V.aT z) (ps.map fun p=>(p.1,s.ev p.2))=V.aT l:=by
 intro ps;induction ps with
 |nil =>
  intro vs z l q he _;cases vs with
  |nil=>cases q; exact⟨rfl,rfl⟩
  |cons v vs=>simp[V.aT] at he
 |cons p ps ih =>
  intro vs z l q he hk;obtain⟨i,x⟩:=p;cases vs with
  |nil=>simp[V.aT] at he
  |cons v vs =>
   simp only[ZE] at q;obtain⟨g,q⟩:=aS q;simp only[List.map_cons,V.aT,List.cons.injEq] at he;have hkv:=Jg hk v (by simp);simp only[ER,Bool.and_eq_true] at hk;obtain⟨i1,i2⟩:=ih q he.2 hk.2;have e:V.aT (z.set i v)=(V.aT z).set i (s.ev x):=by rw[he.1]; simp[iK,List.map_set]
   rw[e] at i2;simp only[List.map_cons,JC,rU,Bool.and_eq_true];refine⟨⟨⟨?_,g⟩,i1⟩,i2⟩;rw[he.1,V.OZ hkv]; simp
theorem aeC(R:Rp m s.fr)(hh:s.hp=h.au){ty k:Nat}{z:T}{n:Nat}{ps:List (Nat×X)}{r:V}{sd:Sd}(q:msZ m h k z n ps=some (r,sd))(hs:sd.holds):Ok s (.ms ty k z n ps) r:=by
 unfold msZ at q;split at q
 ·rename_i vs s' hb;split at q
  ·rename_i l hl;obtain⟨g,q⟩:=aS q;have hs':s'.holds/\r.aG= .sl k true (V.aT l):=by
    split at q
    ·rename_i w hw;cases q; exact⟨hs,by simp only[V.aG]; rw[Rw.zU hw]⟩
    ·cases q; exact⟨hs,rfl⟩
   have he:=rZ R hb hs'.1;have he':(ps.map fun p=>s.ev p.2)=V.aT vs:=by rw[<- he]; simp
   simp only[Bool.and_eq_true] at g;obtain⟨⟨⟨⟨⟨⟨g1,g2⟩,g3⟩,g4⟩,g5⟩,g6⟩,g7⟩:=g;obtain⟨i1,i2⟩:=VH hl he' g3;have e:V.aT (List.replicate n (EF z))=List.replicate n z:=by rw[iK,List.map_replicate,yj]
   rw[e] at i2;unfold Ok; simp only[qc,qt];rw[i1,i2,he',hh,Hg g4,V.iC _ g5,g1,g2,g6,g7,hs'.2];exact⟨rfl,rfl⟩
  ·cases q
 ·cases q
theorem BH(R:Rp m s.fr){x:Option X}{v:Option V}{sd:Sd}(q:KA m x=some (v,sd))(hs:sd.holds):x.map s.ev=v.map V.aG:=by
 cases x with
 |none=>cases q; rfl
 |some x =>
  simp only[KA] at q;split at q
  ·rename_i u hu;cases q;simp only[Option.map_some]; rw[R.ev hu,dN (v:=u) (u:=u.bare.1) (s:=u.bare.2) rfl hs]
  ·cases q
theorem Hl{k k':Nat}{r:Rw}(g:kOk k k' r=true):k'=k\/r.aT=[]:=by
 unfold kOk at g;split at g
 ·exact .inr rfl
 ·exact .inl (fC g)
theorem QZ{k k':Nat}{f:Bool}{w:Rw}{lo hi mx:Option V}{r:V}{sd:Sd}(q:ZF k k' f w lo hi mx=some (r,sd))(hs:sd.holds) :
  slC k (.sl k' f w.aT) (lo.map V.aG) (hi.map V.aG) (mx.map V.aG)/\Qq k (.sl k' f w.aT) (lo.map V.aG) (hi.map V.aG) (mx.map V.aG)=r.aG:=by
 unfold ZF at q;split at q
 ·obtain⟨g,q⟩:=aS q; cases q;simp only[Option.map_none,slC,Qq,V.aG];exact⟨Hl g,trivial⟩
 ·obtain⟨g,q⟩:=aS q; cases q;simp only[Sd.holds,Rw.uO] at hs;simp only[Option.map_none,Option.map_some,slC,Qq,V.aG,Rw.QX,Rw.eF];exact⟨⟨Hl g,hs⟩,trivial⟩
 ·obtain⟨g,q⟩:=aS q; cases q;simp only[Sd.holds,Rw.uO] at hs;simp only[Option.map_none,Option.map_some,slC,Qq,V.aG,Rw.FC,Rw.eF];exact⟨⟨Hl g,hs⟩,trivial⟩
 ·obtain⟨g,q⟩:=aS q; cases q;simp only[Sd.holds,Rw.uO] at hs;simp only[Option.map_none,Option.map_some,slC,Qq,V.aG,Rw.FC,Rw.QX,Rw.eF];exact⟨⟨Hl g,hs.1,hs.2.1,hs.2.2.2⟩,trivial⟩
 ·obtain⟨g,q⟩:=aS q; cases q;simp only[Sd.holds,Rw.uO] at hs;simp only[Option.map_none,Option.map_some,slC,Qq,V.aG,Rw.FC,Rw.eF];exact⟨⟨Hl g,hs.1,hs.2.1,hs.2.2.2⟩,trivial⟩
 ·cases q
theorem ZN{k i ty ko:Nat}{w:Rw}{lo hi mx:Option V}{r:V}{sd:Sd}(q:ZG k i ko w lo hi mx=some (r,sd))(hs:sd.holds) :
  ET k ⟨ty,ko,w.aT⟩ (lo.map V.aG) (hi.map V.aG) (mx.map V.aG)/\Ai i ⟨ty,ko,w.aT⟩ (lo.map V.aG) (hi.map V.aG) (mx.map V.aG)=r.aG:=by
 unfold ZG at q;split at q
 ·obtain⟨g,q⟩:=aS q; cases q;simp only[Sd.holds,Rw.uO] at hs;simp only[Option.map_none,Option.map_some,ET,Ai,V.aG,Rw.eF];exact⟨⟨fC g,hs⟩,trivial⟩
 ·obtain⟨g,q⟩:=aS q; cases q;simp only[Sd.holds,Rw.uO] at hs;simp only[Option.map_none,Option.map_some,ET,Ai,V.aG,Rw.eF];exact⟨⟨fC g,hs⟩,trivial⟩
 ·obtain⟨g,q⟩:=aS q; cases q;simp only[Sd.holds,Rw.uO] at hs;simp only[Option.map_none,Option.map_some,ET,Ai,V.aG,Rw.eF];exact⟨⟨fC g,hs.1,hs.2.1,hs.2.2.2⟩,trivial⟩
 ·cases q
theorem Xv{k i ty ko:Nat}{w:Rw}{xs:List V}{lo hi mx:Option V}{r:V}{sd:Sd}(q:UD k i ko w xs lo hi mx=some (r,sd))(hs:sd.holds) :
  ET k ⟨ty,ko,w.aT++V.aT xs⟩ (lo.map V.aG) (hi.map V.aG) (mx.map V.aG)/\Ai i ⟨ty,ko,w.aT++V.aT xs⟩ (lo.map V.aG) (hi.map V.aG) (mx.map V.aG)=r.aG:=by
 unfold UD at q;split at q
 ·obtain⟨g,q⟩:=aS q; cases q;simp only[Sd.holds,Rw.uO] at hs;simp only[Option.map_none,Option.map_some,ET,Ai,V.aG];refine⟨⟨fC g,hs.1,?_⟩,trivial⟩;have:=hs.2;simp only[List.length_append,Rw.eF]; omega
 ·split at q
  ·simp only[V.aT,List.append_nil]; exact ZN q hs
  ·cases q
theorem VI(R:Rp m s.fr){b:Bool}{k:Nat}{x:X}{lo hi mx:Option X}{r:V}{sd:Sd}(q:slX m h b k x lo hi mx=some (r,sd))(hs:sd.holds) :
  ∃ v lo' hi' mx' s',slZ h b k v lo' hi' mx'=some (r,s')/\s'.holds/\s.ev x=v.aG/\lo.map s.ev=lo'.map V.aG/\hi.map s.ev=hi'.map V.aG/\mx.map s.ev=mx'.map V.aG:=by
 obtain⟨v,s',q,hs,hv⟩:=jR R q hs;split at q
 ·rename_i lo' s1 hi' s2 mx' s3 e1 e2 e3;split at q
  ·rename_i u s4 e4;cases q;rw[Sd.lC,Sd.lC,Sd.lC] at hs;exact⟨v,lo',hi',mx',s4,e4,hs.2.2.2,hv,BH R e1 hs.1,BH R e2 hs.2.1,BH R e3 hs.2.2.1⟩
  ·cases q
 ·cases q
theorem afM(R:Rp m s.fr){k:Nat}{x:X}{lo hi mx:Option X}{r:V}{sd:Sd}(q:slX m h false k x lo hi mx=some (r,sd))(hs:sd.holds):Ok s (.sl k x lo hi mx) r:=by
 obtain⟨v,lo',hi',mx',s',q,hs,hv,e1,e2,e3⟩:=VI R q hs;unfold Ok; simp only[qc,qt]; rw[hv,e1,e2,e3];unfold slZ at q;split at q
 ·exact QZ q hs
 ·cases q
 ·cases q
theorem aeD(R:Rp m s.fr)(hh:s.hp=h.au){k:Nat}{x:X}{lo hi mx:Option X}{r:V}{sd:Sd}(q:slX m h true k x lo hi mx=some (r,sd))(hs:sd.holds):Ok s (.Yz k x lo hi mx) r:=by
 obtain⟨v,lo',hi',mx',s',q,hs,hv,e1,e2,e3⟩:=VI R q hs;unfold Ok; simp only[qc,qt]; rw[hv,e1,e2,e3];unfold slZ at q;split at q
 ·exact QZ q hs
 ·simp only[cond_true] at q;split at q
  ·rename_i i _ ty ko w xs e;simp only[V.aG,hh,aP e,OV.aA];exact Xv q hs
  ·cases q
 ·cases q
theorem Em{t:Str}{a b:Nat}(hab:a<=b)(_hb:b<=t.length):(bs t).extract a b=bs ((t.take b).drop a):=by
 apply ByteArray.ext;have h1:((bs t).extract a b).data=(bs t).data.extract a b:=ByteArray.data_extract;rw[h1];apply Array.ext';simp[bs,List.extract,List.take_drop];rw[show a+(b-a)=b by omega]
theorem afN(R:Rp m s.fr){x:X}{lo hi:Option X}{r:V}{sd:Sd}(q:ssX m x lo hi=some (r,sd))(hs:sd.holds):Ok s (.ss x lo hi) r:=by
 obtain⟨v,s',q,hs,hv⟩:=jR R q hs;split at q
 ·rename_i t lo' s1 hi' s2 e1 e2;split at q
  ·rename_i u s4 e4;cases q;rw[Sd.lC,Sd.lC] at hs;have f1:=BH R e1 hs.1;have f2:=BH R e2 hs.2.1;unfold Ok; simp only[qc,qt]; rw[hv,f1,f2];have hs4:=hs.2.2;unfold ssZ at e4;split at e4
   ·cases e4;simp only[Sd.holds] at hs4;simp only[Option.map_none,Option.map_some,V.aG,eS,zT];refine⟨hs4,?_⟩;rw[Em (by omega) (Nat.le_refl _)]; simp
   ·cases e4;simp only[Sd.holds] at hs4;simp only[Option.map_none,Option.map_some,V.aG,eS,zT];refine⟨hs4,?_⟩;rw[Em (by omega) (by omega)]; simp
   ·cases e4;simp only[Sd.holds] at hs4;simp only[Option.map_some,V.aG,eS,zT];refine⟨hs4,?_⟩;rw[Em (by omega) (by omega)]
   ·cases e4
  ·cases q
 ·cases q
theorem aeE(R:Rp m s.fr)(hh:s.hp=h.au){f:FuncId}{cap:List X}{r:V}{sd:Sd}(q:mfZ m h f cap=some (r,sd))(hs:sd.holds):Ok s (.mf f cap) r:=by
 unfold mfZ at q;split at q
 ·rename_i l s' hb;obtain⟨g,q⟩:=aS q;cases q;simp only[Bool.and_eq_true] at g;unfold Ok; simp only[qc,qt];rw[rZ R hb hs,hh,Xu g.1.1 g.1.2,g.2];exact⟨rfl,rfl⟩
 ·cases q
theorem aeF{f:FuncId}{x:X}{v r:V}{sd:Sd}(q:mbZ f v=some (r,sd))(h1:s.ev x=v.aG):Ok s (.mb f x) r:=by
 unfold mbZ at q;split at q
 ·obtain⟨g,q⟩:=aS q; cases q;unfold Ok; simp only[qc,qt]; rw[h1]; exact⟨Nat.blt_eq.mp g,rfl⟩
 ·obtain⟨g,q⟩:=aS q; cases q;rename_i d;unfold Ok; simp only[qc,qt]; rw[h1]; simp only[V.aG]; rw[Dat.He]; exact⟨Nat.blt_eq.mp g,rfl⟩
 ·cases q
theorem ZO(R:Rp m s.fr)(hh:s.hp=h.au){op:nR}{r:V}{sd:Sd}(q:qz m h op=some (r,sd))(hs:sd.holds):bC op=true/\Ok s op r:=by
 unfold qz at q;split at q
 ·split at q
  ·rename_i v e; cases q;exact⟨rfl,trivial,R.ev e⟩
  ·cases q
 ·obtain⟨c,s',q,hs,hc⟩:=jR R q hs;split at q
  ·rename_i t va vb e1 e2;exact⟨rfl,ZJ R e1 e2 q hs hc⟩
  ·cases q
 ·obtain⟨u,v,s',q,hs,h1,h2⟩:=zV R q hs;exact⟨rfl,abX q hs h1 h2⟩
 ·obtain⟨u,v,s',q,hs,h1,h2⟩:=zV R q hs;split at q
  ·cases q; refine⟨rfl,?_⟩; unfold Ok; simp only[qc,qt]; rw[h1,h2]; exact⟨rfl,rfl⟩
  ·cases q
 ·obtain⟨u,s',q,hs,h1⟩:=jR R q hs;split at q
  ·cases q; refine⟨rfl,?_⟩; unfold Ok; simp only[qc,qt]; rw[h1]; exact⟨rfl,rfl⟩
  ·cases q
 ·obtain⟨u,s',q,hs,h1⟩:=jR R q hs;split at q
  ·cases q; refine⟨rfl,?_⟩; unfold Ok; simp only[qc,qt]; rw[h1]; simp only[V.aG,true_and]; rw[VF hs]
  ·cases q; refine⟨rfl,?_⟩; unfold Ok; simp only[qc,qt]; rw[h1]; simp only[V.aG,true_and]; rw[VF hs]
  ·cases q; refine⟨rfl,?_⟩; unfold Ok; simp only[qc,qt]; rw[h1]; simp only[V.aG,true_and]; rw[VF hs]
  ·cases q
 ·obtain⟨u,s',q,hs,h1⟩:=jR R q hs;split at q
  ·cases q; refine⟨rfl,?_⟩; unfold Ok; simp only[qc,qt]; rw[h1]; simp only[V.aG,true_and]; rw[afL hs.1 hs.2]
  ·cases q; refine⟨rfl,?_⟩; unfold Ok; simp only[qc,qt]; rw[h1]; exact⟨trivial,rfl⟩
  ·cases q
 ·obtain⟨u,s',q,hs,h1⟩:=jR R q hs;split at q
  ·cases q; refine⟨rfl,?_⟩; unfold Ok; simp only[qc,qt]; rw[h1]; simp only[V.aG,true_and]; rw[aer hs.1 hs.2]
  ·cases q
 ·obtain⟨u,s',q,hs,h1⟩:=jR R q hs; exact⟨rfl,aes hh q h1⟩
 ·obtain⟨u,s',q,hs,h1⟩:=jR R q hs; exact⟨rfl,aeu q h1⟩
 ·obtain⟨u,v,s',q,hs,h1,h2⟩:=zV R q hs; exact⟨rfl,ZL hh q hs h1 h2⟩
 ·obtain⟨u,v,s',q,hs,h1,h2⟩:=zV R q hs; exact⟨rfl,aev q hs h1 h2⟩
 ·obtain⟨u,s',q,hs,h1⟩:=jR R q hs; exact⟨rfl,UG hh q hs h1⟩
 ·obtain⟨u,s',q,hs,h1⟩:=jR R q hs; exact⟨rfl,aew hh q h1⟩
 ·obtain⟨u,s',q,hs,h1⟩:=jR R q hs; exact⟨rfl,VG hh q h1⟩
 ·obtain⟨u,v,s',q,hs,h1,h2⟩:=zV R q hs; exact⟨rfl,aex q h1 h2⟩
 ·obtain⟨u,v,s',q,hs,h1,h2⟩:=zV R q hs; exact⟨rfl,aey q h1 h2⟩
 ·exact⟨rfl,aeB R hh q hs⟩
 ·exact⟨rfl,aeC R hh q hs⟩
 ·exact⟨rfl,afM R q hs⟩
 ·exact⟨rfl,aeD R hh q hs⟩
 ·exact⟨rfl,afN R q hs⟩
 ·obtain⟨u,s',q,hs,h1⟩:=jR R q hs; exact⟨rfl,aez q h1⟩
 ·exact⟨rfl,aeE R hh q hs⟩
 ·obtain⟨u,v,s',q,hs,h1,h2⟩:=zV R q hs; exact⟨rfl,abZ q h1 h2⟩
 ·obtain⟨u,s',q,hs,h1⟩:=jR R q hs; exact⟨rfl,ab1 q h1⟩
 ·obtain⟨u,s',q,hs,h1⟩:=jR R q hs; exact⟨rfl,aeF q h1⟩
 ·obtain⟨u,s',q,hs,h1⟩:=jR R q hs; exact⟨rfl,aeA q h1⟩
 ·cases q
end
structure ah(P:Program)(dr:Bool)(g:Option Bool)(f:FuncId)(args:List V)(h:Hz)(n:Nat)(K:V->Hz->Prop)(KW:Nat->V->Hz->Prop):Prop where
 ok:(match g with
  |none=>aQ P f (V.aT args) h.au n fun t hp=> ∃ v h',t=v.aG/\hp=h'.au/\(dr=true->h'=h/\t.free=true)/\K v h'
  |some b=>(∃ v,(b=true->aQ P f (V.aT args) h.au n fun t hp=>t=v.aG/\hp=h.au)/\v.free=true/\K v h) \/
   (dr=false/\(b=true->aQ P f (V.aT args) h.au n fun t hp=> ∃ v h',t=v.aG/\hp=h'.au/\K v h')/\(b=false->K (.int 0) h))) \/
  (g=none/\dr=false/\ ∃ k,jq P f (V.aT args) h.au n k fun t hp=> ∃ v h',t=v.aG/\hp=h'.au/\KW k v h') \/
  (g=none/\dr=true/\h.get n=none/\aQ P f (V.aT args) h.au n fun t hp=> ∃ v o,t=v.aG/\hp=Hz.au ((n,some o)::h)/\KW 0 v ((n,some o)::h))
structure afO(P:Program)(f:FuncId)(args:List V)(h:Hz)(n:Nat)(K:V->Hz->Prop):Prop where
 ok: ∃ (v:V) (o:Option OV),v.aG.ids (fun i=>i=n)/\(∀ ob,o=some ob->T.bZ ob.aA.l=true) /\
  (∀ hp:Hp,(∀ i ob,h.au i=some ob->hp i=some ob)->aQ P f (V.aT args) hp n fun t' h'=>t'=v.aG/\h'=jc hp n (o.map OV.aA)) /\
  K v (match o with|none=>h|some o=>(n,some o)::h)
structure afP(P:Program)(f:FuncId)(cap args:List V)(h:Hz)(n:Nat)(K:V->Hz->Prop):Prop where
 ok:JG P (.fn f (V.aT cap)) (V.aT args) h.au n fun t hp=> ∃ v h',t=v.aG/\hp=h'.au/\K v h'
def agU(dr:Bool)(g:Option Bool)(a b:Prop):Prop :=
 match dr with
 |true=>False
 |false=>match g with
  |none=>a
  |some c=>Fork c a b
def En(dr fl:Bool)(a b c:Prop):Prop :=
 match dr with
 |false=>a
 |true=>match fl with
  |false=>b
  |true=>c
inductive YJ(p a b:Prop):Prop where
 |mk:(p->a)->b->YJ p a b
inductive afQ(o:Option (List Bool))(yes:List Bool->Prop)(no:Prop):Prop where
 |mk:(∀ l,o=some l->yes l)->(o=none->no)->afQ o yes no
def V.seq(v:V)(K:V->Prop):Prop :=
 match v with
 | .int n=>K (.int n)
 | .bool b=>K (.bool b)
 | .u8 n=>K (.u8 n)
 | .str s=>K (.str s)
 | .dat d=>K (.dat d)
 | .agg l=>K (.agg l)
 | .row k f r=>K (.row k f r)
 | .G9 k f l=>K (.G9 k f l)
 | .ref k v=>K (.ref k v)
 | .own i=>K (.own i)
 | .inn i=>K (.inn i)
 | .pin i j o=>K (.pin i j o)
 | .ptr i j o=>K (.ptr i j o)
 | .pq i a b=>K (.pq i a b)
 | .fn f l=>K (.fn f l)
 | .dn l=>K (.dn l)
 | .cnd b v=>K (.cnd b v)
 | .raw t=>K (.raw t)
theorem V.seq_eq(v:V)(K:V->Prop):v.seq K=K v:=by cases v<;>rfl
def gV(d:Option Nat)(v:V)(m:Fm):Fm :=
 match d with
 |some d=>(d,v)::m
 |none=>m
def rD:Option Bool->V->V
 |none,v=>v
 |some b,.cnd c v=>.cnd (b&&c) v
 |some b,v=>.cnd b v
theorem Ho(v:V):(rD (some true) v).aG=v.aG:=by cases v<;>rfl
theorem UH(v:V):(rD (some false) v).aG=T.un:=by cases v<;>rfl
def UJ(m:Fm):Option (Nat×Bool)->Option (Option Bool)
 |none=>some none
 |some (g,w)=>match m.get g with
  |some (.bool b)=>some (some (bif w then b else !b))
  |some (.cnd c (.bool b))=>some (some (c&&(bif w then b else !b)))
  |_=>none
def ltX(nx:Nat)(m:Fm):List X->Bool
 |[]=>true
 |x::r=>(match Am m x with|some v=>T.lt nx v.aG|none=>false)&&ltX nx m r
def ZP(nx:Nat)(m:Fm):nR->Bool
 | .st _ x _=>match Am m x with|some v=>T.newer nx v.aG|none=>false
 | .app _ _ _ x _=>match Am m x with|some v=>T.newer nx v.aG|none=>false
 | .Tn _ _ _=>false
 | .TW _ _ _=>false
 | .call _ _=>true
 | .ig _ _=>true
 |op=>ltX nx m op.xs
def ab2(i:Nat)(m:Fm):List X->Bool
 |[]=>true
 |x::r=>(match Am m x with|some v=>T.nid i v.aG|none=>false)&&ab2 i m r
def neB(m:Fm)(xs:List X):List Nat->Bool
 |[]=>true
 |d::r=>(bif Nat.blt d 1000000 then(match m.get d with|some (.ptr i _ _)=>ab2 i m xs|_=>false)
   else bif Nat.beq d 1000000 then ltX 10000 m xs else(match xs with|x::_=>(match Am m x with|some v=>T.newer 10000 v.aG|none=>false)|[]=>false))&&neB m xs r
def Ir(nx:Nat)(o:aJ)(m:Fm):Bool:=(!o.fl||ZP nx m o.op)&&neB m o.op.xs o.ne
def isZero:V->Bool
 | .int (.ofNat 0)=>true
 |_=>false
def abd(n:Nat):T->Option Rw
 | .lit (.int .i64 z)=>some (.ints (List.replicate n z))
 | .lit (.bool z)=>some (.bools (List.replicate n z))
 | .lit (.string z)=>some (.strs (List.replicate n z.data.toList))
 |_=>none
def Rw.set(j:Nat)(v:V)(r:Rw):Option Rw :=
 match r,v with
 | .ints l,.int n=>some (.ints (l.set j n))
 | .bools l,.bool n=>some (.bools (l.set j n))
 | .strs l,.str n=>some (.strs (l.set j n))
 | .rules l,.dat (.rule n)=>some (.rules (l.set j n))
 | .clauses l,.dat (.clause n)=>some (.clauses (l.set j n))
 | .elems l,.dat (.elem n)=>some (.elems (l.set j n))
 | .dW l,.row 0 false (.ints n)=>some (.dW (l.set j n))
 | .nH l,.row 0 false (.bools n)=>some (.nH (l.set j n))
 | .nI l,.row 0 false (.dW n)=>some (.nI (l.set j n))
 |_,_=>none
def aeG(h:Hz)(k:Nat):V->Option (Rw×List V)
 | .row k' _ r=>dJ (kOk k k' r) (some (r,[]))
 | .G9 k' _ l=>dJ (Nat.beq k' k) (some (.nil,l))
 | .own o=>match h.get o with
  |some (.row _ ko r x)=>dJ (Nat.beq ko k) (some (r,x))
  |_=>none
 |_=>none
def aeH(r:Rw)(x:List V)(r':Rw)(x':List V):Option (Rw×List V) :=
 match x,r' with
 |[],r'=>match r.app r' with|some w=>some (w,x')|none=>none
 |x,.nil=>some (r,x++x')
 |_,_=>none
def nP(r:Rw)(x:List V):Nat :=
 match x with
 |[]=>r.len
 |x=>r.len+x.length
def mJ(bytes:Nat)(a b:Nat):Prop:=(a+b)*bytes<=140737488355328/\a+b<=1152921504606846976
def setCells(v:V)(off:Nat)(u:V):Option V :=
 match v.cells,u.cells with
 |some l,some c=>some (.agg (l.take off++c++l.drop (off+c.length)))
 |_,_=>none
def O1:List V->(List V->Prop)->Prop
 |[],K=>K []
 |v::r,K=>O1 r fun r'=>K (v::r')
def V.force(v:V)(K:V->Prop):Prop :=
 match v with
 | .agg l=>O1 l fun l=>K (.agg l)
 |v=>K v
theorem Xw: ∀ {l:List V} {K:List V->Prop},O1 l K=K l:=by
 intro l;induction l with
 |nil=>intro K; rfl
 |cons v r ih=>intro K; show O1 r (fun r'=>K (v::r'))=_; rw[ih]
theorem V.force_eq(v:V)(K:V->Prop):v.force K=K v:=by
 cases v<;>first|rfl|exact Xw
structure ab3(c p a b:Prop):Prop where
 ok:(c\/b)/\p/\a
theorem ab3.one{c p a b:Prop}(h:c/\p)(k:a):ab3 c p a b:=⟨.inl h.1,h.2,k⟩
structure AtZ(y:List V)(j:Nat)(K:V->Prop):Prop where
 ok: ∃ v,y[j]? =some v/\K v
structure Nz(h:Hz)(i:Nat)(K:Nat->Rw->Prop):Prop where
 ok: ∃ ty k r,h.get i=some (.row ty k r [])/\K k r
structure Mc(h:Hz)(i j k:Nat)(v:V)(K:Hz->Prop):Prop where
 ok: ∃ ty r r' h',h.get i=some (.row ty k r [])/\r.set j v=some r'/\r.rng j/\h'.au=upd h.au i (some (OV.row ty k r' []).aA)/\K h'
structure afR(h:Hz)(i ty k:Nat)(K:Rw->Hz->Prop):Prop where
 ok: ∃ r h',h.get i=some (.row ty k r [])/\h'.au=upd h.au i none/\K r h'
def ab4(dr:Bool)(d:Option Nat)(n:Nat)(m:Fm)(h:Hz)(K:Fm->Hz->Prop):nR->Prop
 | .box ty k x=>match Am m x with
  |some v=>match v.bare with
   |(v,s)=>bif ER k [v]&&v.jW h&&yX k then s.vc none (K (gV d (.ptr n 0 0) m) ((n,some (.box ty k v))::h)) else False
  |none=>False
 | .al ty k z=>bif z.kd==k&&z.jW h.au&&z.free&&yX k then K (gV d (.ptr n 0 0) m) ((n,some (.box ty k (EF z)))::h) else False
 | .make ty k bytes z x y=>match Am m x,Am m y with
  |some (.int a),some (.int b)=>bif z.kd==k&&z.jW h.au&&z.free&&yX k then
    (match (bif isZero (.int a) then some .nil else abd a.toNat z) with
    |some r=>VC (0<=a/\a<=b/\b*bytes<=140737488355328/\b<=1152921504606846976) (K (gV d (.own n) m) ((n,some (.row ty k r []))::h))
    |none=>VC (0<=a/\a<=b/\b*bytes<=140737488355328/\b<=1152921504606846976) (K (gV d (.own n) m) ((n,some (.gen ty k (List.replicate a.toNat (EF z))))::h))) else False
  |_,_=>False
 | .st k x v=>match Am m x,Am m v with
  |some (.ptr i j off),some v=>match v.bare with
   |(v,s)=>bif ER k [v]&&v.jW h then
    (match h.get i with
    |some (.box ty ko w)=>bif Nat.beq j 0 then
      (bif Nat.beq off 0&&Nat.beq ko k then s.vc none (K m ((i,some (.box ty ko v))::h))
      else bif !(Nat.beq ko 0)&&oh (bg ko) off k then(match setCells w off v with
       |some w'=>w'.force fun w'=>s.vc none (K m ((i,some (.box ty ko w'))::h))
       |none=>False) else False) else False
    |some (.row ty ko r [])=>bif Nat.beq off 0&&Nat.beq ko k then(match r.set j v with
      |some r'=>s.vc none (VC (r.rng j) (K m ((i,some (.row ty ko r' []))::h)))
      |none=>s.vc none (VC (r.rng j) (K m ((i,some (.gen ty ko (r.vs.set j v)))::h)))) else False
    |some (.gen ty ko y)=>bif Nat.beq off 0&&Nat.beq ko k then s.vc none (VC (j<y.length) (K m ((i,some (.gen ty ko (y.set j v)))::h))) else False
    |_=>False) else False
  |some x,some v=>(match x.bare with
   |(.pin i j off,s0)=>match v.bare with
    |(v,s)=>bif ER k [v]&&v.jW h&&Nat.beq off 0 then(s0.and s).vc none (Mc h i j k v fun h'=>K m h') else False
   |_=>False)
  |_,_=>False
 | .ld k x=>match Am m x with
  |some v=>(match v.bare with
   |(.ptr i j off,s)=>(match h.get i with
    |some (.gen _ ko y)=>bif Nat.beq off 0&&Nat.beq ko k then s.vc none (AtZ y j fun v=>v.seq fun v=>K (gV d v m) h) else False
    |_=>False)
   |(.pin i j off,s)=>s.vc none (Nz h i fun ko r=>match ldR k j off ko r with
    |some (v,s')=>s'.vc none (v.seq fun v=>K (gV d v m) h)
    |none=>False)
   |_=>False)
  |none=>False
 | .ia k x i=>match Am m x,Am m i with
  |some v,some w=>(match v.bare,w.bare with
   |(.inn o,s),(.int n,s')=>(s.and s').vc none (Nz h o fun ko r=>bif Nat.beq ko k then VC (r.rng n) (K (gV d (.pin o n.toNat 0) m) h) else False)
   |_,_=>False)
  |_,_=>False
 | .len str x=>match Am m x with
  |some v=>(match v.bare with
   |(.inn o,s)=>s.vc none (Nz h o fun ko r=>bif !str&& !(Nat.beq ko fM) then r.lenV.seq fun v=>K (gV d v m) h else False)
   |_=>False)
  |none=>False
 | .app ty k bytes x y=>match Am m x,Am m y with
  |some x,some y=>match aeG h k y with
   |some (r',x')=>(match x with
    | .row _ true .nil=>VC (mJ bytes 0 (nP r' x')) (K (gV d (.own n) m) ((n,some (.row ty k r' x'))::h))
    | .row k' true r=>bif Nat.beq k' k then(match r.app r' with
     |some w=>ab3 (r.len=0\/0<nP r' x') (mJ bytes r.len (nP r' x')) (K (gV d (.own n) m) ((n,some (.row ty k w x'))::h)) (dr=false/\K (gV d (.row k' true r) m) h)
     |none=>False) else False
    | .own i=>(match h.get i with
     |some (.row ty' ko r x)=>bif Nat.beq ko k&&Nat.beq ty' ty then(match aeH r x r' x' with
      |some (w,z)=>VC (mJ bytes (nP r x) (nP r' x')) (K (gV d (.own n) m) ((n,some (.row ty k w z))::(i,none)::h))
      |none=>False) else False
     |some (.gen ty' ko y)=>bif Nat.beq ko k&&Nat.beq ty' ty then VC (mJ bytes y.length (nP r' x')) (K (gV d (.own n) m) ((n,some (.gen ty k (y++(r'.vs++x'))))::(i,none)::h)) else False
     |_=>False)
    | .inn i=>afR h i ty k fun r h'=>match r.app r' with
     |some w=>VC (mJ bytes r.len (nP r' x')) (K (gV d (.own n) m) ((n,some (.row ty k w x'))::h'))
     |none=>False
    |_=>False)
   |none=>False
  |_,_=>False
 | .TW k z x=>match Am m x with
  |some (.pq i lo hi)=>match h.get i with
   |some (.row ty ko r [])=>bif Nat.beq ko k&&z.kd==k&&z.jW h.au&&z.free then
     VC (lo<=hi/\hi=r.len) (match d with
      |none=>K m ((i,some (.row ty ko (r.take lo) (List.replicate (hi-lo) (EF z))))::h)
      |some _=>K (gV d (.raw T.un) m) ((i,some (.row ty ko (r.take lo) (List.replicate (hi-lo) (EF z))))::h)) else False
   |_=>False
  |_=>False
 | .Gy ty k z nn ps=>match BG m (ps.map fun p=>p.2) with
  |some (vs,s)=>match ZE nn ps vs (List.replicate nn (EF z)) with
   |some l=>bif (z.kd==k)&&z.free&&ER k vs&&DI h vs&&Nat.ble (nn*bg k) 16777216&&yX k then s.vc none (K (gV d (.own n) m) ((n,some (.row ty k .nil l))::h)) else False
   |none=>False
  |none=>False
 | .Ah x=>match Am m x with
  |some (.row _ _ r)=>YJ (r.len=0) (K (gV d (.bool true) m) h) (K (gV d (.bool false) m) h)
  |some (.own i)=>match h.get i with
   |some (.row _ ko r [])=>bif Nat.beq ko fM then False else YJ (r.len=0) (K (gV d (.bool true) m) h) (K (gV d (.bool false) m) h)
   |_=>False
  |_=>False
 | .Yy ty=>K (gV d (.own n) m) ((n,some (.map ty [] []))::h)
 | .mlk z x i=>match Am m x,Am m i with
  |some (.own o),some (.int k)=>match h.get o with
   |some (.map _ es [])=>afQ (Ip k es) (fun l=>K (gV d (.dn [.row 0 false (.bools l),.bool true]) m) h) (K (gV d (.dn [EF z,.bool false]) m) h)
   |_=>False
  |_,_=>False
 | .Tn x i v=>match Am m x,Am m i,Am m v with
  |some (.own o),some (.int k),some v=>match v.bare with
   |(v,s)=>match h.get o with
    |some (.map ty es [])=>bif ER 0 [v]&&v.jW h then s.vc none (VC (Ip k es=none) (K m ((o,some (.map ty es [(k,v)]))::h))) else False
    |_=>False
  |_,_,_=>False
 |_=>False
def phZ:nR->V
 | .not _=>.bool false
 |_=>.int 0
def aeI(P:Program)(dr:Bool)(nx n:Nat)(o:aJ)(KK:Nat->Fm->Hz->Prop)(m:Fm)(h:Hz):Prop :=
 match UJ m o.g with
 |none=>False
 |some g=>bif Ir nx o m then
   (match o.op with
   | .call f xs=>(match BG m xs with
    |some (l,s)=>s.vc g (match g with
     |none=>En dr o.fl (ah P false none f l h n (fun v h'=>v.seq fun v=>KK 0 (gV o.d v m) h') (fun k v h'=>v.seq fun v=>KK k (gV o.d v m) h')) (ah P true none f l h n (fun v h'=>v.seq fun v=>KK 0 (gV o.d v m) h') (fun _ _ _=>False)) (ah P false none f l h n (fun v h'=>v.seq fun v=>KK 0 (gV o.d v m) h') (fun _ _ _=>False))
     |some b=>En dr o.fl (ah P false (some b) f l h n (fun v h'=>v.seq fun v=>KK 0 (gV o.d (rD (some b) v) m) h') (fun _ _ _=>False)) (ah P true (some b) f l h n (fun v h'=>v.seq fun v=>KK 0 (gV o.d (rD (some b) v) m) h') (fun _ _ _=>False)) (ah P false (some b) f l h n (fun v h'=>v.seq fun v=>KK 0 (gV o.d (rD (some b) v) m) h') (fun _ _ _=>False)))
    |none=>False)
   | .ig x xs=>(match Am m x,BG m xs with
    |some v,some (l,s)=>(match v.bare with
     |(.fn f cap,s0)=>(s0.and s).vc g (bif Nat.blt f 4096 then En dr o.fl (ah P false g f (l++cap) h n (fun v h'=>v.seq fun v=>KK 0 (gV o.d (rD g v) m) h') (fun _ _ _=>False)) (ah P true g f (l++cap) h n (fun v h'=>v.seq fun v=>KK 0 (gV o.d (rD g v) m) h') (fun _ _ _=>False)) (ah P false g f (l++cap) h n (fun v h'=>v.seq fun v=>KK 0 (gV o.d (rD g v) m) h') (fun _ _ _=>False)) else bif Nat.blt f 8192 then En dr o.fl (ah P false g (f % 4096) (.agg cap::l) h n (fun v h'=>v.seq fun v=>KK 0 (gV o.d (rD g v) m) h') (fun _ _ _=>False)) (ah P true g (f % 4096) (.agg cap::l) h n (fun v h'=>v.seq fun v=>KK 0 (gV o.d (rD g v) m) h') (fun _ _ _=>False)) (ah P false g (f % 4096) (.agg cap::l) h n (fun v h'=>v.seq fun v=>KK 0 (gV o.d (rD g v) m) h') (fun _ _ _=>False)) else agU dr g (afP P f cap l h n (fun v h'=>v.seq fun v=>KK 0 (gV o.d v m) h')) (KK 0 (gV o.d (.cnd false (.int 0)) m) h))
     |_=>False)
    |_,_=>False)
   |op=>(match qz m h op with
    |some (v,s)=>s.vc g (v.seq fun v=>KK 0 (gV o.d (rD g v) m) h)
    |none=>(match g with
     |none=>ab4 dr o.d n m h (KK 0) op
     |some b=>Fork b (ab4 dr o.d n m h (KK 0) op) (KK 0 (gV o.d (.cnd false (phZ op)) m) h))))
   else False
def adZ(P:Program)(nx n:Nat)(o:aJ)(KK:Nat->Fm->Hz->Prop)(m:Fm)(h:Hz):Prop :=
 match o.op,o.g with
 | .call f xs,none=>bif o.fl&&Ir nx o m then
   (match BG m xs with
   |some (l,s)=>s.vc none (ah P true none f l h n (fun v h'=>v.seq fun v=>KK 0 (gV o.d v m) h') (fun _ v h'=>v.seq fun v=>KK 0 (gV o.d v m) h'))
   |none=>False)
   else False
 |_,_=>False
def arZ(P:Program)(nx n:Nat)(o:aJ)(KK:Nat->Fm->Hz->Prop)(m:Fm)(h:Hz):Prop :=
 match o.op,o.g with
 | .call f xs,none=>bif o.fl&&Ir nx o m then
   (match BG m xs with
   |some (l,s)=>s.vc none (afO P f l h n (fun v h'=>v.seq fun v=>KK 0 (gV o.d v m) h'))
   |none=>False)
   else False
 |_,_=>False
def opZ(P:Program)(dr:Bool)(nx n:Nat)(o:aJ)(KK:Nat->Fm->Hz->Prop)(m:Fm)(h:Hz):Prop :=
 match o.ar with
 |true=>arZ P nx n o KK m h
 |false=>match o.ad with
 |true=>adZ P nx n o KK m h
 |false=>aeI P dr nx n o KK m h
def Q5(P:Program)(dr:Bool)(ml:Nat)(nx:Nat)(K:Fm->Hz->Nat->Prop):List aJ->Nat->Fm->Hz->Prop
 |[],_,m,h=>K m h (nx+ml)
 |o::r,i,m,h=>opZ P dr nx (nx+i) o (fun k=>Q5 P dr ml (nx+k) K r (i+1)) m h
abbrev Qz:=qL->Fm->Hz->Nat->Prop
def Lift(N pn:Nat)(Q:Qz)(e:qL)(s:AS):Prop:= ∃ m h,s.fr.length=N/\Rp m s.fr/\s.hp=h.au/\s.pin=pn/\Q e m h s.nx
structure aC(P:Program)(N pn:Nat)(b:fB)(Q:Qz)(m:Fm)(h:Hz)(nx:Nat):Prop where
 ok: ∀ fr,fr.length=N->Rp m fr->yY (aw P b) (Lift N pn Q) ⟨fr,h.au,nx,pn⟩
def az(P:Program)(N pn:Nat):fB->Qz->Fm->Hz->Nat->Prop
 | .skip,Q,m,h,nx=>Q .normal m h nx
 | .reg dr ops,Q,m,h,nx=>Q5 P dr ops.length nx (fun m h nx=>Q .normal m h nx) ops 0 m h
 | .seq a b,Q,m,h,nx=>az P N pn a (fun e m h nx=>match e with| .normal=>az P N pn b Q m h nx|e=>Q e m h nx) m h nx
 | .cond c a b,Q,m,h,nx =>
  match Am m c with
  |some (.bool t)=>Fork t (az P N pn a Q m h nx) (az P N pn b Q m h nx)
  |_=>False
 | .blk id b,Q,m,h,nx=>az P N pn b (fun e m h nx=>match e with| .exit j=>(bif Nat.beq j id then Q .normal m h nx else Q (.exit j) m h nx)|e=>Q e m h nx) m h nx
 | .exit id,Q,m,h,nx=>Q (.exit id) m h nx
 | .ret,Q,m,h,nx=>Q .ret m h nx
 | .loop b,Q,m,h,nx=>aC P N pn b Q m h nx
def O4(N:Nat):List aJ->Bool
 |[]=>true
 |o::r=>(match o.d with|some d=>Nat.blt d N|none=>true)&&O4 N r
def sF(N:Nat):fB->Bool
 | .skip=>true
 | .reg _ ops=>O4 N ops
 | .seq a b=>sF N a&&sF N b
 | .cond _ a b=>sF N a&&sF N b
 | .blk _ b=>sF N b
 | .exit _=>true
 | .ret=>true
 | .loop b=>sF N b
section
variable {P:Program} {m:Fm} {h:Hz}
theorem bP{i:Nat}{o:Option OV}:Hz.au ((i,o)::h)=upd h.au i (o.map OV.aA):=by
 funext j;simp only[Hz.au,Hz.get,upd];by_cases e:j=i
 ·subst e; simp
 ·have:Nat.beq i j=false:=by
   cases hb:Nat.beq i j with
   |false=>rfl
   |true=>exact absurd (fC hb).symm e
  simp[this,e]
theorem Rp.put{fr:List T}(R:Rp m fr){d:Option Nat}{v:V}(hd: ∀ i,d=some i->i<fr.length){s:AS}(hs:s.fr=fr):Rp (gV d v m) (s.put d v.aG).fr:=by
 subst hs;cases d with
 |none=>exact R
 |some d =>
  intro i u hu;simp only[gV,Fm.get] at hu;show(s.fr.set d v.aG)[i]? =_;cases hb:Nat.beq d i with
  |true =>
   rw[hb] at hu; simp at hu; subst hu;have:=fC hb; subst this;rw[List.getElem?_set_self (hd d rfl)]
  |false =>
   rw[hb] at hu;have hne:d≠i:=Nat.ne_of_beq_eq_false hb;rw[List.getElem?_set_ne hne];exact R i u hu
theorem VJ{s:AS}{d:Option Nat}{t:T}:(s.put d t).fr.length=s.fr.length:=by cases d<;>simp[AS.put]
theorem ku{g:Option Bool}{k:Prop}{s:Sd}(q:s.vc g k):((g=none\/g=some true)->s.holds)/\k:=by
 unfold Sd.vc at q;split at q
 ·exact⟨fun _=>trivial,q⟩
 ·split at q
  ·obtain⟨a,b⟩:=q; exact⟨fun _=>a,b⟩
  ·obtain⟨a,b⟩:=q; exact⟨fun hg=>a (by rcases hg with e|e<;>cases e; rfl),b⟩
theorem Xx{s:AS}(R:Rp m s.fr){g:Option (Nat×Bool)}{g':Option Bool}(q:UJ m g=some g'):(gv g s=some true/\(g'=none\/g'=some true))\/(gv g s=some false/\g'=some false):=by
 unfold UJ at q;split at q
 ·cases q; exact .inl ⟨rfl,.inl rfl⟩
 ·rename_i d w;split at q
  ·rename_i b e;cases q;have hg:s.fr.getD d .any= .lit (.bool b):=R.getD e;simp only[gv,hg];cases w<;>cases b<;>simp
  ·rename_i c b e;cases q;have hg:s.fr.getD d .any=bif c then .lit (.bool b) else T.un:=R.getD e;cases c with
   |true=>simp only[gv,hg,cond_true]; cases w<;>cases b<;>simp
   |false=>simp only[gv,hg,cond_false]; simp
  ·cases q
theorem VK{s:AS}(R:Rp m s.fr){nx:Nat}: ∀ {xs:List X},ltX nx m xs=true->(xs.all fun x=>T.lt nx (s.ev x))=true:=by
 intro xs;induction xs with
 |nil=>intro _; rfl
 |cons x r ih =>
  intro q;simp only[ltX,Bool.and_eq_true] at q;simp only[List.all_cons,Bool.and_eq_true];refine⟨?_,ih q.2⟩;have:=q.1;split at this
  ·rename_i v e; rw[R.ev e]; exact this
  ·cases this
theorem ZQ{s:AS}(R:Rp m s.fr){i:Nat}: ∀ {xs:List X},ab2 i m xs=true->(xs.all fun x=>T.nid i (s.ev x))=true:=by
 intro xs;induction xs with
 |nil=>intro _; rfl
 |cons x r ih =>
  intro q;simp only[ab2,Bool.and_eq_true] at q;simp only[List.all_cons,Bool.and_eq_true];refine⟨?_,ih q.2⟩;have:=q.1;split at this
  ·rename_i v e; rw[R.ev e]; exact this
  ·cases this
theorem aeJ{s:AS}(R:Rp m s.fr){xs:List X}: ∀ {l:List Nat},neB m xs l=true->GL s xs l=true:=by
 intro l;induction l with
 |nil=>intro _; rfl
 |cons d r ih =>
  intro q;simp only[neB,Bool.and_eq_true] at q;simp only[GL,Bool.and_eq_true];refine⟨?_,ih q.2⟩;have:=q.1;cases h1:Nat.blt d 1000000 with
  |true =>
   rw[h1,cond_true] at this;rw[cond_true];split at this
   ·rename_i i j o e;have hg:s.fr.getD d .any= .ptr i j o:=R.getD e;simp only[AS.obj,hg];exact ZQ R this
   ·cases this
  |false =>
   rw[h1,cond_false] at this;rw[cond_false];cases h2:Nat.beq d 1000000 with
   |true=>rw[h2,cond_true] at this; rw[cond_true]; exact VK R this
   |false =>
    rw[h2,cond_false] at this;rw[cond_false];cases xs with
    |nil=>cases this
    |cons x l =>
     simp only at this ⊢;split at this
     ·rename_i v e; rw[R.ev e]; exact this
     ·cases this
theorem KE{s:AS}(R:Rp m s.fr){o:aJ}(q:Ir s.nx o m=true):iZ o s:=by
 unfold Ir at q;simp only[Bool.and_eq_true,Bool.or_eq_true,Bool.not_eq_true'] at q;refine⟨fun hf=>?_,aeJ R q.2⟩;have h1:ZP s.nx m o.op=true:=by
  rcases q.1 with h|h
  ·rw[hf] at h; cases h
  ·exact h
 unfold ZP at h1;split at h1
 ·rename_i k x v e;rw[e];split at h1
  ·rename_i u hu; simp only; rw[R.ev hu]; exact h1
  ·cases h1
 ·rename_i e;rw[e];split at h1
  ·rename_i u hu; simp only; rw[R.ev hu]; exact h1
  ·cases h1
 ·cases h1
 ·cases h1
 ·rename_i e; rw[e]
 ·rename_i e; rw[e]
 ·rename_i op h2 h3 h4 h5 h6 h7;have:=VK R h1;split
  ·rename_i e; exact absurd e (h2 _ _ _)
  ·rename_i e; exact absurd e (h3 _ _ _ _ _)
  ·rename_i e; exact absurd e (h4 _ _ _)
  ·rename_i e; exact absurd e (h5 _ _ _)
  ·rfl
  ·rfl
  ·exact this
def Kz(N pn nx:Nat)(K:Fm->Hz->Prop)(s:AS):Prop:= ∃ m h,s.fr.length=N/\Rp m s.fr/\s.hp=h.au/\s.pin=pn/\s.nx=nx/\K m h
theorem O5{k:Nat}{v:V}(q:ER k [v]=true):v.aG.kd=k:=V.OZ (Jg q v (by simp))
theorem ab5{n:Nat}{z:T}{r:Rw}(q:abd n z=some r):r.aT=List.replicate n z:=by
 unfold abd at q;split at q<;>cases q
 ·simp[Rw.aT]
 ·simp[Rw.aT]
 ·simp only[Rw.aT,List.map_replicate]; rw[ads]
theorem Rw.VL{j:Nat}{v:V}{r w:Rw}(q:r.set j v=some w):w.aT=r.aT.set j v.aG:=by
 unfold Rw.set at q;split at q<;>first|(cases q; done)|(cases q; simp[Rw.aT,V.aG,Dat.aG,List.map_set])
theorem ab6{k:Nat}{y:V}{r:Rw}{x:List V}(q:aeG h k y=some (r,x)):Ua h.au k y.aG= .list (r.aT++V.aT x):=by
 unfold aeG at q;split at q
 ·rename_i k' f w;obtain⟨g,q⟩:=aS q; cases q;simp only[V.aG,Ua,V.aT,List.append_nil];rcases Hl g with rfl|e
  ·cases r.aT<;>simp
  ·rw[e]
 ·rename_i k' f l;obtain⟨g,q⟩:=aS q; cases q;have:=fC g; subst this;simp only[V.aG,Ua,Rw.aT,List.nil_append];cases hx:V.aT x<;>simp
 ·split at q
  ·rename_i o _ ty ko w z e;obtain⟨g,q⟩:=aS q; cases q;have:=fC g; subst this;simp[V.aG,Ua,aP e,OV.aA]
  ·cases q
 ·cases q
theorem zn{r:Rw}{x:List V}:nP r x=(r.aT++V.aT x).length:=by
 unfold nP;split
 ·simp[V.aT,Rw.eF]
 ·simp[dM,Rw.eF]
theorem ab7{r r' w:Rw}{x x' z:List V}(q:aeH r x r' x'=some (w,z)):w.aT++V.aT z=(r.aT++V.aT x)++(r'.aT++V.aT x'):=by
 unfold aeH at q;split at q
 ·split at q
  ·rename_i w' e; cases q; rw[Rw.Jf e]; simp[V.aT]
  ·cases q
 ·cases q; simp[xB,Rw.aT]
 ·cases q
theorem aeK{k:Int}: ∀ {es:List (Int×List Bool)},xY k (es.map OW)=(Ip k es).map fun l=>.sl 0 false (l.map T.bool):=by
 intro es;induction es with
 |nil=>rfl
 |cons e es ih =>
  obtain⟨m,l⟩:=e;simp only[List.map_cons,OW,xY,T.int,Ip];cases k==m
  ·exact ih
  ·rfl
theorem afS{k:Int}{v:T}: ∀ {es:List (Int×List Bool)},Ip k es=none->AZ k v (es.map OW)=es.map OW++[.dn [.int k,v]]:=by
 intro es;induction es with
 |nil=>intro _; rfl
 |cons e es ih =>
  obtain⟨m,l⟩:=e;intro h;simp only[Ip] at h;cases hb:k==m with
  |true=>rw[hb] at h; cases h
  |false =>
   rw[hb] at h;simp only[List.map_cons,OW,AZ,T.int,hb,cond_false,List.cons_append];rw[ih h]
theorem NC{N pn n nx:Nat}{d:Option Nat}{op:nR}{K:Fm->Hz->Prop}{s:AS}{dr:Bool}(hl:s.fr.length=N)(hd: ∀ i,d=some i->i<N)(R:Rp m s.fr)(hh:s.hp=h.au)(hp:s.pin=pn)(hn:s.nx=nx)(q:ab4 dr d n m h K op) :
  lU P dr n d op (Kz N pn nx K) s:=by
 have hd': ∀ i,d=some i->i<s.fr.length:=fun i e=>by rw[hl]; exact hd i e
 have fin: ∀ {v:V} {h':Hz},K (gV d v m) h'->Kz N pn nx K {(s.put d v.aG) with hp:=h'.au}:=fun {v h'} hk =>
  ⟨_,h',by show(s.put d v.aG).fr.length=N; rw[VJ,hl],R.put (v:=v) hd' rfl,rfl,by show(s.put d v.aG).pin=pn; cases d<;>exact hp,by show(s.put d v.aG).nx=nx; cases d<;>exact hn,hk⟩
 have ab8: ∀ {op:nR} {v:V},bC op=true->Ok s op v->K (gV d v m) h->lU P dr n d op (Kz N pn nx K) s:=fun {op v} hq ho hk=>by
  rw[bn hq];refine⟨ho.1,?_⟩;rw[ho.2];have:=fin hk;rw[<- hh] at this;rw[show({(s.put d v.aG) with hp:=s.hp}:AS)=s.put d v.aG by cases d<;>rfl] at this;exact this
 unfold ab4 at q;split at q
 ·rename_i ty k x;split at q
  ·rename_i v e;split at q;rename_i v' s' hb;cases g:ER k [v']&&v'.jW h&&yX k with
   |false=>rw[g] at q; exact q.elim
   |true =>
    rw[g] at q;simp only[Bool.and_eq_true] at g;simp only[cond_true] at q;obtain⟨hs,hk⟩:=ku q;have ev:s.ev x=v'.aG:=by rw[R.ev e]; exact dN hb (hs (.inl rfl))
    simp only[lU];rw[ev,O5 g.1.1,hh,V.rY g.1.2,g.2];refine⟨by simp,?_⟩;have:=fin hk;rw[bP] at this;exact this
  ·exact q.elim
 ·rename_i ty k z;cases g:z.kd==k&&z.jW h.au&&z.free&&yX k with
  |false=>rw[g] at q; exact q.elim
  |true =>
   rw[g] at q;simp only[lU];rw[hh,g];refine⟨rfl,?_⟩;have:=fin q;rw[bP] at this;simp only[Option.map_some,OV.aA,yj] at this;exact this
 ·rename_i ty k bytes z x y;split at q
  ·rename_i a b e1 e2;cases g:z.kd==k&&z.jW h.au&&z.free&&yX k with
   |false=>rw[g] at q; exact q.elim
   |true =>
    rw[g] at q;simp only[cond_true] at q;split at q
    ·rename_i r er;obtain⟨c,hk⟩:=q;simp only[lU];rw[R.ev e1,R.ev e2];simp only[V.aG];rw[hh,g];refine⟨rfl,c,?_⟩;have:=fin hk;rw[bP] at this;simp only[Option.map_some,OV.aA,V.aT,List.append_nil] at this;have hr:r.aT=List.replicate a.toNat z:=by
      cases hz:isZero (.int a) with
      |false=>rw[hz] at er; exact ab5 er
      |true =>
       rw[hz] at er; cases er;unfold isZero at hz;split at hz
       ·rename_i e; cases e; rfl
       ·cases hz
     rw[hr] at this;exact this
    ·obtain⟨c,hk⟩:=q;simp only[lU];rw[R.ev e1,R.ev e2];simp only[V.aG];rw[hh,g];refine⟨rfl,c,?_⟩;have:=fin hk;rw[bP] at this;simp only[Option.map_some,OV.aA] at this;rw[iK,List.map_replicate,yj] at this;exact this
  ·exact q.elim
 ·rename_i k x v;split at q
  ·rename_i i j off v0 e1 e2;split at q;rename_i v' s' hb;cases g:ER k [v']&&v'.jW h with
   |false=>rw[g] at q; exact q.elim
   |true =>
    rw[g] at q;simp only[Bool.and_eq_true] at g;simp only[cond_true] at q;have fin2: ∀ {h':Hz},K m h'->Kz N pn nx K {s with hp:=h'.au}:=fun {h'} hk=>⟨m,h',hl,R,rfl,hp,hn,hk⟩
    have ex:s.ev x= .ptr i j off:=R.ev e1;simp only[lU];rw[ex];simp only;split at q
    ·rename_i ty ko w eo;rw[hh,aP eo];simp only[OV.aA];cases hj:Nat.beq j 0 with
     |false=>rw[hj] at q; exact q.elim
     |true =>
      have:=fC hj; subst this;rw[hj] at q;simp only[cond_true] at q;cases hb2:(Nat.beq off 0&&Nat.beq ko k) with
      |true =>
       rw[hb2] at q;simp only[cond_true] at q;obtain⟨hs,hk⟩:=ku q;have ev:s.ev v=v'.aG:=by rw[R.ev e2]; exact dN hb (hs (.inl rfl))
       simp only[Bool.and_eq_true] at hb2;have f1:=fC hb2.1; have f2:=fC hb2.2; subst f1; subst f2;rw[ev,O5 g.1,V.rY g.2];refine⟨by simp,by simp,by simp,?_⟩;have:=fin2 hk;rw[bP] at this;simp only[BEq.rfl,Bool.and_self,cond_true,List.set_cons_zero];exact this
      |false =>
       rw[hb2] at q;simp only[cond_false] at q;cases hc:(!(Nat.beq ko 0)&&oh (bg ko) off k) with
       |false=>rw[hc] at q; exact q.elim
       |true =>
        rw[hc] at q;simp only[cond_true] at q;split at q
        ·rename_i w' hw;rw[V.force_eq] at q;obtain⟨hs,hk⟩:=ku q;have ev:s.ev v=v'.aG:=by rw[R.ev e2]; exact dN hb (hs (.inl rfl))
         have hb':(off==0&&ko==k)=false:=by
          rw[Bool.and_eq_false_iff] at hb2 ⊢;rcases hb2 with hb2|hb2
          ·left; simpa using Nat.ne_of_beq_eq_false hb2
          ·right; simpa using Nat.ne_of_beq_eq_false hb2
         simp only[Bool.and_eq_true] at hc;rw[ev,O5 g.1,V.rY g.2];refine⟨by simp,by simp,?_,?_⟩
         ·simp only[hb',Bool.false_or,Bool.and_eq_true]; exact⟨ZK hc.1,hc.2⟩
         ·have:=fin2 hk;rw[bP] at this;simp only[hb',cond_false,List.set_cons_zero,List.getD_cons_zero];have ew:w.aG.splice off v'.aG=w'.aG:=by
           unfold setCells at hw;split at hw
           ·rename_i l c f1 f2;cases hw;unfold T.splice;rw[V.Hf f1,V.Hf f2];simp only[V.aG,xB,KC,KD,dM]
           ·cases hw
          rw[ew];exact this
        ·exact q.elim
    ·rename_i ty ko r eo;rw[hh,aP eo];simp only[OV.aA,V.aT,List.append_nil];cases hb2:(Nat.beq off 0&&Nat.beq ko k) with
     |false=>rw[hb2] at q; exact q.elim
     |true =>
      rw[hb2] at q;simp only[cond_true] at q;split at q
      ·rename_i r' hr;obtain⟨hs,hk0⟩:=ku q;obtain⟨ZR,hk⟩:=hk0;have ev:s.ev v=v'.aG:=by rw[R.ev e2]; exact dN hb (hs (.inl rfl))
       simp only[Bool.and_eq_true] at hb2;have f1:=fC hb2.1; have f2:=fC hb2.2; subst f1; subst f2;rw[Rw.zW] at ZR;rw[ev,O5 g.1,V.rY g.2];refine⟨by simp,by rw[Rw.eF]; omega,by simp,?_⟩;have:=fin2 hk;rw[bP] at this;simp only[Option.map_some,OV.aA,V.aT,List.append_nil,Rw.VL hr] at this;simp only[BEq.rfl,Bool.and_self,cond_true];exact this
      ·obtain⟨hs,hk0⟩:=ku q;obtain⟨ZR,hk⟩:=hk0;have ev:s.ev v=v'.aG:=by rw[R.ev e2]; exact dN hb (hs (.inl rfl))
       simp only[Bool.and_eq_true] at hb2;have f1:=fC hb2.1; have f2:=fC hb2.2; subst f1; subst f2;rw[Rw.zW] at ZR;rw[ev,O5 g.1,V.rY g.2];refine⟨by simp,by rw[Rw.eF]; omega,by simp,?_⟩;have:=fin2 hk;rw[bP] at this;simp only[Option.map_some,OV.aA] at this;rw[iK,List.map_set,<- iK,Rw.ZH] at this;simp only[BEq.rfl,Bool.and_self,cond_true];exact this
    ·rename_i ty ko y eo;rw[hh,aP eo];simp only[OV.aA];cases hb2:(Nat.beq off 0&&Nat.beq ko k) with
     |false=>rw[hb2] at q; exact q.elim
     |true =>
      rw[hb2] at q;simp only[cond_true] at q;obtain⟨hs,hk0⟩:=ku q;obtain⟨ZR,hk⟩:=hk0;have ev:s.ev v=v'.aG:=by rw[R.ev e2]; exact dN hb (hs (.inl rfl))
      simp only[Bool.and_eq_true] at hb2;have f1:=fC hb2.1; have f2:=fC hb2.2; subst f1; subst f2;rw[ev,O5 g.1,V.rY g.2];refine⟨by simp,by rw[dM]; exact ZR,by simp,?_⟩;have:=fin2 hk;rw[bP] at this;simp only[Option.map_some,OV.aA] at this;rw[iK,List.map_set,<- iK] at this;simp only[BEq.rfl,Bool.and_self,cond_true];exact this
    ·exact q.elim
  ·rename_i x0 v0 _ e1 e2;split at q
   ·rename_i i j off s0 hb0;split at q;rename_i v' s' hb;cases g:ER k [v']&&v'.jW h&&Nat.beq off 0 with
    |false=>rw[g] at q; exact q.elim
    |true =>
     rw[g] at q;simp only[Bool.and_eq_true] at g;simp only[cond_true] at q;obtain⟨hs,hk⟩:=ku q;have hs2:=Sd.lC.1 (hs (.inl rfl));have ex:s.ev x= .ptr i j off:=by rw[R.ev e1,dN hb0 hs2.1]; rfl
     have ev:s.ev v=v'.aG:=by rw[R.ev e2]; exact dN hb hs2.2
     have f1:=fC g.2; subst f1;obtain⟨ty,r,r',h',a1,a2,a3,a4,a5⟩:=hk.ok;rw[Rw.zW] at a3;simp only[lU];rw[ex];simp only;rw[hh,aP a1];simp only[OV.aA,V.aT,List.append_nil];rw[ev,O5 g.1.1,V.rY g.1.2];refine⟨by simp,by rw[Rw.eF]; omega,by simp,?_⟩;simp only[BEq.rfl,Bool.and_self,cond_true];rw[<- Rw.VL a2];refine⟨m,h',hl,R,?_,hp,hn,a5⟩;rw[a4]; simp only[OV.aA,V.aT,List.append_nil]
   ·exact q.elim
  ·exact q.elim
 ·rename_i k x;split at q
  ·rename_i v0 e1;split at q
   ·rename_i i j off s0 hb0;split at q
    ·rename_i ty ko y eo;cases hb2:(Nat.beq off 0&&Nat.beq ko k) with
     |false=>rw[hb2] at q; exact q.elim
     |true =>
      rw[hb2] at q;simp only[cond_true] at q;obtain⟨hs,hk⟩:=ku q;have ex:s.ev x= .ptr i j off:=by rw[R.ev e1,dN hb0 (hs (.inl rfl))]; rfl
      simp only[Bool.and_eq_true] at hb2;have f1:=fC hb2.1; have f2:=fC hb2.2; subst f1; subst f2;obtain⟨v,hv,hk⟩:=hk.ok;rw[V.seq_eq] at hk;refine ab8 rfl ?_ hk;have hj:j<y.length:=by
       rcases Nat.lt_or_ge j y.length with h|h
       ·exact h
       ·rw[List.getElem?_eq_none h] at hv; cases hv
      unfold Ok; simp only[qc,qt]; rw[ex];simp only[hh,aP eo,OV.aA];simp only[BEq.rfl,Bool.and_self,Bool.true_or,cond_true,dM];exact⟨⟨hj,trivial⟩,yt hv⟩
    ·exact q.elim
   ·rename_i i j off s0 hb0;obtain⟨hs,hk⟩:=ku q;have ex:s.ev x=(V.ptr i j off).aG:=by rw[R.ev e1,dN hb0 (hs (.inl rfl))]; rfl
    obtain⟨ty,ko,r,eo,hk⟩:=hk.ok;split at hk
    ·rename_i v s' hq;obtain⟨hs',hk⟩:=ku hk;rw[V.seq_eq] at hk;exact ab8 rfl (UG hh (u:=.ptr i j off) (by simp only[ldZ,eo]; exact hq) (hs' (.inl rfl)) ex) hk
    ·exact hk.elim
   ·exact q.elim
  ·exact q.elim
 ·rename_i k x i;split at q
  ·rename_i v0 w0 e1 e2;split at q
   ·rename_i o s0 n0 s1 hb0 hb1;obtain⟨hs,hk⟩:=ku q;have hs2:=Sd.lC.1 (hs (.inl rfl));have ex:s.ev x=(V.own o).aG:=by rw[R.ev e1,dN hb0 hs2.1]; rfl
    have ei:s.ev i=(V.int n0).aG:=by rw[R.ev e2,dN hb1 hs2.2]
    obtain⟨ty,ko,r,eo,hk⟩:=hk.ok;cases hb2:Nat.beq ko k with
    |false=>rw[hb2] at hk; exact hk.elim
    |true =>
     rw[hb2] at hk;simp only[cond_true] at hk;obtain⟨hr,hk⟩:=hk;have hok:Ok s (.ia k x i) (.ptr o n0.toNat 0):=ZL hh (u:=.own o) (v:=.int n0) (r:=.ptr o n0.toNat 0) (sd:=.yes (r.rng n0)) (by simp only[iaZ,eo,hb2,dJ,cond_true]) hr ex ei;exact ab8 (v:=.pin o n0.toNat 0) rfl ⟨hok.1,hok.2⟩ hk
   ·exact q.elim
  ·exact q.elim
 ·rename_i str x;split at q
  ·rename_i v0 e1;split at q
   ·rename_i o s0 hb0;obtain⟨hs,hk⟩:=ku q;have ex:s.ev x=(V.own o).aG:=by rw[R.ev e1,dN hb0 (hs (.inl rfl))]; rfl
    obtain⟨ty,ko,r,eo,hk⟩:=hk.ok;cases hb2:(!str&& !(Nat.beq ko fM)) with
    |false=>rw[hb2] at hk; exact hk.elim
    |true =>
     rw[hb2] at hk;simp only[cond_true] at hk;rw[V.seq_eq] at hk;exact ab8 rfl (VG hh (u:=.own o) (r:=r.lenV) (sd:=.no) (by simp only[abV,eo,hb2,dJ,cond_true]) ex) hk
   ·exact q.elim
  ·exact q.elim
 ·rename_i ty k bytes x y;split at q
  ·rename_i vx vy e1 e2;split at q
   ·rename_i r' x' es;simp only[lU];rw[R.ev e1,R.ev e2,hh,ab6 es];simp only;split at q
    ·rename_i k';obtain⟨c,hk⟩:=q;have e0:(V.row k' true Rw.nil).aG= .sl k' true []:=rfl;rw[e0];unfold mJ at c;rw[zn] at c;refine⟨.inr rfl,.inl (.inl rfl),by simpa using c.1,by simpa using c.2,?_⟩;have:=fin hk;rw[bP] at this;exact this
    ·rename_i k' r hnn;cases hb2:Nat.beq k' k with
     |false=>rw[hb2] at q; exact q.elim
     |true =>
      rw[hb2] at q;have:=fC hb2; subst this;simp only[cond_true] at q;split at q
      ·rename_i w hw;obtain⟨c1,c2,hk⟩:=q.ok;simp only[V.aG];unfold mJ at c2;rw[zn] at c1 c2;refine⟨.inl trivial,?_,by rw[Rw.eF]; exact c2.1,by rw[Rw.eF]; exact c2.2,?_⟩
       ·rcases c1 with (c|c)|⟨c,hk2⟩
        ·left; left; exact List.eq_nil_of_length_eq_zero (by rw[Rw.eF]; exact c)
        ·left; right; intro e; rw[e] at c; simp at c
        ·right;refine⟨c,?_⟩;have f1:=fin hk2;rw[<- hh] at f1;rw[show({(s.put d (V.row k' true r).aG) with hp:=s.hp}:AS)=s.put d (.sl k' true r.aT) by cases d<;>rfl] at f1;exact f1
       ·have:=fin hk;rw[bP] at this;simp only[Option.map_some,OV.aA,Rw.Jf hw,List.append_assoc] at this;exact this
      ·exact q.elim
    ·rename_i i;split at q
     ·rename_i ty' ko r xx eo;cases hb2:(Nat.beq ko k&&Nat.beq ty' ty) with
      |false=>rw[hb2] at q; exact q.elim
      |true =>
       rw[hb2] at q;simp only[cond_true] at q;simp only[Bool.and_eq_true] at hb2;have f1:=fC hb2.1; have f2:=fC hb2.2; subst f1; subst f2;split at q
       ·rename_i w z hw;obtain⟨c,hk⟩:=q;simp only[V.aG,aP eo,OV.aA];unfold mJ at c;rw[zn,zn] at c;refine⟨by simp,c.1,c.2,?_⟩;have:=fin hk;rw[bP,bP] at this;simp only[Option.map_some,Option.map_none,OV.aA,ab7 hw] at this;exact this
       ·exact q.elim
     ·rename_i ty' ko y eo;cases hb2:(Nat.beq ko k&&Nat.beq ty' ty) with
      |false=>rw[hb2] at q; exact q.elim
      |true =>
       rw[hb2] at q;simp only[cond_true] at q;simp only[Bool.and_eq_true] at hb2;have f1:=fC hb2.1; have f2:=fC hb2.2; subst f1; subst f2;obtain⟨c,hk⟩:=q;simp only[V.aG,aP eo,OV.aA];unfold mJ at c;rw[zn] at c;refine⟨by simp,by rw[dM]; exact c.1,by rw[dM]; exact c.2,?_⟩;have:=fin hk;rw[bP,bP] at this;simp only[Option.map_some,Option.map_none,OV.aA,xB,Rw.ZH] at this;exact this
     ·exact q.elim
    ·rename_i i;obtain⟨r,h',a1,a2,hk⟩:=q.ok;split at hk
     ·rename_i w hw;obtain⟨c,hk⟩:=hk;simp only[V.aG,aP a1,OV.aA,V.aT,List.append_nil];unfold mJ at c;rw[zn] at c;refine⟨by simp,by rw[Rw.eF]; exact c.1,by rw[Rw.eF]; exact c.2,?_⟩;have:=fin hk;rw[bP,a2] at this;simp only[Option.map_some,OV.aA,Rw.Jf hw,List.append_assoc] at this;exact this
     ·exact hk.elim
    ·exact q.elim
   ·exact q.elim
  ·exact q.elim
 ·rename_i k z x;split at q
  ·rename_i i lo hi e;split at q
   ·rename_i ty ko r eo;cases g:(Nat.beq ko k&&z.kd==k&&z.jW h.au&&z.free) with
    |false=>rw[g] at q; exact q.elim
    |true =>
     rw[g] at q;simp only[cond_true] at q;obtain⟨⟨c1,c2⟩,hk⟩:=q;simp only[Bool.and_eq_true] at g;obtain⟨⟨⟨g1,g2⟩,g3⟩,g4⟩:=g;have f1:=fC g1; subst f1;simp only[lU];rw[R.ev e];simp only[V.aG,hh,aP eo,OV.aA];refine⟨by simp[g2,g3,g4],by simp[Rw.eF,c2,V.aT],?_⟩;have el:(r.take lo).aT++V.aT (List.replicate (hi-lo) (EF z))=List.take lo (r.aT++V.aT [])++List.replicate (hi-lo) z++List.drop hi (r.aT++V.aT []):=by
      rw[Rw.FC,iK,List.map_replicate,yj];simp[V.aT,Rw.eF,c2]
     cases d with
     |none =>
      simp only at hk;refine⟨_,_,hl,R,?_,hp,hn,hk⟩;rw[bP];simp only[Option.map_some,OV.aA,el]
     |some dd =>
      simp only at hk;have:=fin hk;rw[bP] at this;simp only[Option.map_some,OV.aA,el] at this;exact this
   ·exact q.elim
  ·exact q.elim
 ·rename_i ty k z nn ps;split at q
  ·rename_i vs s' hb;split at q
   ·rename_i l hl;cases g:((z.kd==k)&&z.free&&ER k vs&&DI h vs&&Nat.ble (nn*bg k) 16777216&&yX k) with
    |false=>rw[g] at q; exact q.elim
    |true =>
     rw[g] at q;simp only[cond_true] at q;obtain⟨hs,hk⟩:=ku q;have he:=rZ R hb (hs (.inl rfl));have he':(ps.map fun p=>s.ev p.2)=V.aT vs:=by rw[<- he]; simp
     simp only[Bool.and_eq_true] at g;obtain⟨⟨⟨⟨⟨g1,g2⟩,g3⟩,g4⟩,g5⟩,g6⟩:=g;obtain⟨i1,i2⟩:=VH hl he' g3;have e:V.aT (List.replicate nn (EF z))=List.replicate nn z:=by rw[iK,List.map_replicate,yj]
     rw[e] at i2;simp only[lU];rw[i1,i2,he',hh,Hg g4,g1,g2,g5,g6];refine⟨rfl,?_⟩;have:=fin hk;rw[bP] at this;simp only[Option.map_some,OV.aA,Rw.aT,List.nil_append] at this;exact this
   ·exact q.elim
  ·exact q.elim
 ·rename_i x;split at q
  ·rename_i k' f r e;obtain⟨q1,q2⟩:=q;simp only[lU];rw[R.ev e];have f1:=fun hz=>fin (q1 hz)
   have f2:=fin q2;rw[<- hh] at f1 f2;refine⟨fun hl=>?_,?_⟩
   ·have:=f1 (by rw[<- Rw.eF]; exact congrArg List.length hl);rw[show({(s.put d (V.bool true).aG) with hp:=s.hp}:AS)=s.put d (.lit (.bool true)) by cases d<;>rfl] at this;exact this
   ·rw[show({(s.put d (V.bool false).aG) with hp:=s.hp}:AS)=s.put d (.lit (.bool false)) by cases d<;>rfl] at f2;exact f2
  ·rename_i i e;split at q
   ·rename_i ty ko r eo;cases hb:Nat.beq ko fM with
    |true=>rw[hb] at q; exact q.elim
    |false =>
     rw[hb] at q;obtain⟨q1,q2⟩:=q;simp only[lU];rw[R.ev e];have f1:=fun hz=>fin (q1 hz)
     have f2:=fin q2;rw[<- hh] at f1 f2;simp only[V.aG,hh,aP eo,OV.aA];refine⟨fun hl=>?_,?_,Nat.ne_of_beq_eq_false hb⟩
     ·have:=f1 (by rw[<- Rw.eF]; simpa [V.aT] using congrArg List.length hl);rw[show({(s.put d (V.bool true).aG) with hp:=s.hp}:AS)=s.put d (.lit (.bool true)) by cases d<;>rfl] at this;exact this
     ·rw[show({(s.put d (V.bool false).aG) with hp:=s.hp}:AS)=s.put d (.lit (.bool false)) by cases d<;>rfl] at f2;exact f2
   ·exact q.elim
  ·exact q.elim
 ·rename_i ty;simp only[lU];have:=fin q;rw[bP] at this;rw[hh];exact this
 ·rename_i z x i;split at q
  ·rename_i o k e1 e2;split at q
   ·rename_i ty es eo;obtain⟨q1,q2⟩:=q;rw[bn rfl];simp only[qc,qt];rw[R.ev e1,R.ev e2];simp only[V.aG,T.int,hh,aP eo,OV.aA,List.map_nil,List.append_nil,aeK];refine⟨trivial,?_⟩;cases hg:Ip k es with
    |some l =>
     have f1:=fin (q1 l hg);rw[<- hh] at f1;rw[show({(s.put d (V.dn [.row 0 false (.bools l),.bool true]).aG) with hp:=s.hp}:AS)=s.put d (.dn [.sl 0 false (l.map T.bool),.lit (.bool true)]) by cases d<;>rfl] at f1;exact f1
    |none =>
     have f2:=fin (q2 hg);rw[<- hh] at f2;rw[show({(s.put d (V.dn [EF z,.bool false]).aG) with hp:=s.hp}:AS)=s.put d (.dn [(EF z).aG,.lit (.bool false)]) by cases d<;>rfl,yj] at f2;exact f2
   ·exact q.elim
  ·exact q.elim
 ·rename_i x i v;split at q
  ·rename_i o k w e1 e2 e3;split at q;rename_i v' s' hb;split at q
   ·rename_i ty es eo;cases g:ER 0 [v']&&v'.jW h with
    |false=>rw[g] at q; exact q.elim
    |true =>
     rw[g] at q;simp only[Bool.and_eq_true] at g;simp only[cond_true] at q;obtain⟨hs,c,hk⟩:=ku q;have ev:s.ev v=v'.aG:=by rw[R.ev e3]; exact dN hb (hs (.inl rfl))
     have hkd:=O5 g.1;have hst:=V.rY g.2;simp only[lU];rw[R.ev e1,R.ev e2,ev];simp only[V.aG,T.int,hh,aP eo,OV.aA,List.map_nil,List.append_nil];refine⟨trivial,?_,?_⟩
     ·rw[hkd]
      have:v'.aG.yT h.au=true:=by
       revert hst hkd;cases v'.aG<;>simp[T.jW,T.kd]
      rw[this]; rfl
     ·have hK:Kz N pn nx K {s with hp:=Hz.au ((o,some (.map ty es [(k,v')]))::h)}:=⟨m,_,hl,R,rfl,hp,hn,hk⟩
      rw[bP] at hK;have:=afS (v:=v'.aG) c;simp only[T.int] at this;rw[this];exact hK
   ·exact q.elim
  ·exact q.elim
 ·exact q.elim
end
section
variable {P:Program} {m:Fm} {h:Hz}
theorem Kz.put{N pn nx:Nat}{K:Fm->Hz->Prop}{s:AS}{d:Option Nat}{v:V}{t:T}{h':Hz}(hl:s.fr.length=N)(hd: ∀ i,d=some i->i<N)(R:Rp m s.fr)(hp:s.pin=pn)(hn:s.nx=nx)(ht:t=v.aG)(hk:K (gV d v m) h') :
  Kz N pn nx K {(s.put d t) with hp:=h'.au}:=by
 subst ht;exact⟨_,h',by show(s.put d v.aG).fr.length=N; rw[VJ,hl],R.put (v:=v) (fun i e=>by rw[hl]; exact hd i e) rfl,rfl,by show(s.put d v.aG).pin=pn; cases d<;>exact hp,by show(s.put d v.aG).nx=nx; cases d<;>exact hn,hk⟩
theorem KF{N pn nx n:Nat}{K:Fm->Hz->Prop}{KW:Nat->Fm->Hz->Prop}{s:AS}{d:Option Nat}{dr:Bool}{g:Option Bool}{f:FuncId}{l:List V}(hl:s.fr.length=N)(hd: ∀ i,d=some i->i<N)(R:Rp m s.fr)(hh:s.hp=h.au)(hp:s.pin=pn)(hn:s.nx=nx)
  (hg:g=none\/g=some true) (q:ah P dr g f l h n (fun v h'=>v.seq fun v=>K (gV d (rD g v) m) h') (fun k v h'=>v.seq fun v=>KW k (gV d v m) h')) (hq:dr=true-> ∀ (v:V) (h':Hz),¬ (v.seq fun v=>KW 0 (gV d v m) h')) :
  mV P dr n d f (V.aT l) (Kz N pn nx K) s\/(dr=false/\ ∃ k,jq P f (V.aT l) s.hp n k fun t hp=>Kz N pn (nx+k) (KW k) {(s.put d t) with hp:=hp,nx:=s.nx+k}):=by
 unfold mV;rw[hh];rcases q.ok with q|⟨rfl,rfl,k,q⟩|⟨_,hdr,_,⟨_,_,v,o,_,_,hk⟩,_⟩
 rotate_left
 rotate_left
 ·exact absurd hk (hq hdr _ _)
 rotate_left
 ·refine .inr ⟨rfl,k,q.mono ?_⟩;rintro t hp' ⟨v,h',rfl,rfl,hk⟩;rw[V.seq_eq] at hk;obtain⟨m',h'',a1,a2,a3,a4,_,a6⟩:=Kz.put (K:=KW k) hl hd R hp hn rfl hk;exact⟨m',h'',a1,a2,a3,a4,by show s.nx+k=nx+k; rw[hn],a6⟩
 left;rcases hg with rfl|rfl
 ·refine aQ.mono q ?_;rintro t hp' ⟨v,h',e1,e2,e3,hk⟩;rw[V.seq_eq] at hk;subst e2;refine⟨fun e=>⟨by rw[(e3 e).1],(e3 e).2⟩,Kz.put (v:=v) hl hd R hp hn e1 hk⟩
 ·rcases q with ⟨v,c,hf,hk⟩|⟨hdr,c,_⟩
  rotate_left
  ·refine aQ.mono (c rfl) ?_;rintro t hp' ⟨v,h',e1,e2,hk⟩;rw[V.seq_eq] at hk;subst e2;exact⟨fun e=>(by rw[hdr] at e; cases e),Kz.put (v:=rD (some true) v) hl hd R hp hn (e1.trans (Ho v).symm) hk⟩
  rw[V.seq_eq] at hk;refine aQ.mono (c rfl) ?_;rintro t hp' ⟨e1,e2⟩;subst e2;refine⟨fun _=>⟨rfl,by rw[e1]; exact V.og v hf⟩,Kz.put (v:=rD (some true) v) hl hd R hp hn (by rw[e1]; exact(Ho v).symm) hk⟩
theorem yu{N pn nx n:Nat}{K:Fm->Hz->Prop}{s:AS}{d:Option Nat}{dr:Bool}{g:Option Bool}{f:FuncId}{l:List V}(hl:s.fr.length=N)(hd: ∀ i,d=some i->i<N)(R:Rp m s.fr)(hh:s.hp=h.au)(hp:s.pin=pn)(hn:s.nx=nx)
  (hg:g=none\/g=some true) (q:ah P dr g f l h n (fun v h'=>v.seq fun v=>K (gV d (rD g v) m) h') (fun _ _ _=>False)):mV P dr n d f (V.aT l) (Kz N pn nx K) s:=by
 rcases KF (KW:=fun _ _ _=>False) hl hd R hh hp hn hg ⟨q.ok.imp id fun h=>h.imp (fun⟨a,b,k,c⟩=>⟨a,b,k,c.mono fun _ _ ⟨_,_,_,_,h⟩=>h.elim⟩) (fun⟨a,b,d,c⟩=>⟨a,b,d,c.mono fun _ _ ⟨_,_,_,_,h⟩=>h.elim⟩)⟩ (fun _ v h' hk=>by rw[V.seq_eq] at hk; exact hk) with h|⟨_,k,⟨t,hp',hk⟩,_⟩
 ·exact h
 ·obtain⟨_,_,_,_,_,_,_,hk⟩:=hk; exact hk.elim
theorem ah.guard{dr:Bool}{f:FuncId}{args:List V}{n:Nat}{K:V->Hz->Prop}{KW:Nat->V->Hz->Prop}(q:ah P dr (some false) f args h n K KW): ∃ v,K v h:=by
 rcases q.ok with (⟨v,_,_,k⟩|⟨_,_,k⟩)|⟨h1,_⟩|⟨h1,_⟩
 ·exact⟨v,k⟩
 ·exact⟨_,k rfl⟩
 ·cases h1
 ·cases h1
theorem Xy{dr fl:Bool}{a b c:Prop}:En dr fl a b c↔(dr=false/\a)\/(dr=true/\bif fl then c else b):=by
 cases dr<;>cases fl<;>simp[En]
theorem uo{dr fl:Bool}{C:Bool->Prop}(q:En dr fl (C false) (C true) (C false)):C (dr&& !fl):=by
 cases dr<;>cases fl<;>exact q
theorem UK{N pn nx n:Nat}{KK:Nat->Fm->Hz->Prop}{s:AS}{o:aJ}{dr:Bool}(hl:s.fr.length=N)(hd: ∀ i,o.d=some i->i<N)(R:Rp m s.fr)(hh:s.hp=h.au)(hp:s.pin=pn)(hn:s.nx=nx)
  (q:aeI P dr nx n o KK m h):(gv o.g s=some true/\iZ o s/\(lU P (o.dr dr) n o.d o.op (Kz N pn nx (KK 0)) s\/opW P dr n o.d o.op (fun s'=> ∃ k,Kz N pn (nx+k) (KK k) s') s))\/(gv o.g s=some false/\Kz N pn nx (KK 0) (s.put o.d T.un)):=by
 unfold aeI at q;split at q
 ·exact q.elim
 ·rename_i g hg;cases hf:Ir nx o m with
  |false=>rw[hf] at q; exact q.elim
  |true =>
   rw[hf] at q;simp only[cond_true] at q;have hfl:iZ o s:=KE R (by rw[hn]; exact hf);have un: ∀ {v:V} {h':Hz},h'=h->KK 0 (gV o.d (rD (some false) v) m) h'->Kz N pn nx (KK 0) (s.put o.d T.un):=fun {v h'} e hk=>by
    subst e;have:=Kz.put (s:=s) (v:=rD (some false) v) (t:=T.un) hl hd R hp hn (UH v).symm hk;rw[<- hh] at this;have e2:({(s.put o.d T.un) with hp:=s.hp}:AS)=s.put o.d T.un:=by
     cases o.d<;>rfl
    rw[e2] at this;exact this
   rcases Xx R hg with ⟨h1,h2⟩|⟨h1,rfl⟩
   ·refine .inl ⟨h1,hfl,?_⟩;split at q
    ·rename_i f xs eo;split at q
     ·rename_i l sd hb;obtain⟨hs,q⟩:=ku q;have ed:o.dr dr=(dr&& !o.fl):=by unfold aJ.dr; rw[eo]
      rw[ed,eo];show mV P (dr&& !o.fl) n o.d f (xs.map s.ev) _ s\/(dr=false/\ ∃ k,jq P f (xs.map s.ev) s.hp n k _);rw[rZ R hb (hs h2)];split at q
      ·rw[Xy] at q;rcases q with ⟨e,q⟩|q
       ·rw[e];exact(KF (g:=none) hl hd R hh hp hn h2 q (fun e=>by cases e)).imp id fun⟨a,k,b⟩=>⟨a,k,b.mono fun _ _ hk=>⟨k,hk⟩⟩
       ·obtain⟨hdt,q⟩:=q;refine .inl (yu (g:=none) hl hd R hh hp hn h2 ?_);rw[hdt];cases hf2:o.fl<;>rw[hf2] at q<;>exact q
      ·rename_i bb _;exact .inl (yu hl hd R hh hp hn h2 (uo (C:=fun dr=>ah P dr (some bb) f l h n (fun v h'=>v.seq fun v=>KK 0 (gV o.d (rD (some bb) v) m) h') (fun _ _ _=>False)) q))
     ·exact q.elim
    ·rename_i x xs eo;split at q
     ·rename_i v0 l sd e1 hb;split at q
      ·rename_i f cap s0 hb0;obtain⟨hs,q⟩:=ku q;have hs2:=Sd.lC.1 (hs h2);have ed:o.dr dr=(dr&& !o.fl):=by unfold aJ.dr; rw[eo]
       rw[ed,eo];cases h81:Nat.blt f 8192 with
       |false =>
        have h40:Nat.blt f 4096=false:=by
         cases hq:Nat.blt f 4096 with
         |false=>rfl
         |true=>rw[Nat.blt_eq.mpr (Nat.lt_trans (Nat.blt_eq.mp hq) (by decide))] at h81; cases h81
        rw[h40,h81] at q;right;cases dr with
        |true=>exact q.elim
        |false =>
         have q':afP P f cap l h n (fun v h'=>v.seq fun v=>KK 0 (gV o.d v m) h'):=by
          rcases h2 with rfl|rfl
          ·exact q
          ·obtain⟨qa,_⟩:=q; exact qa rfl
         refine⟨rfl,?_⟩;rw[R.ev e1,dN hb0 hs2.1];simp only[V.aG];rw[rZ R hb hs2.2,hh];refine⟨h81,q'.ok.mono ?_⟩;rintro t hp' ⟨v,h',rfl,rfl,hk⟩;rw[V.seq_eq] at hk;exact⟨0,Kz.put hl hd R hp hn rfl hk⟩
       |true =>
       left;simp only[lU];rw[R.ev e1,dN hb0 hs2.1];simp only[V.aG];rw[rZ R hb hs2.2,<- xB];cases hbl:Nat.blt f 4096 with
       |true=>rw[hbl] at q; exact yu hl hd R hh hp hn h2 (uo (C:=fun dr=>ah P dr g f (l++cap) h n (fun v h'=>v.seq fun v=>KK 0 (gV o.d (rD g v) m) h') (fun _ _ _=>False)) q)
       |false=>rw[hbl,h81] at q; refine⟨h81,?_⟩; exact yu (l:=.agg cap::l) hl hd R hh hp hn h2 (uo (C:=fun dr=>ah P dr g (f % 4096) (.agg cap::l) h n (fun v h'=>v.seq fun v=>KK 0 (gV o.d (rD g v) m) h') (fun _ _ _=>False)) q)
      ·exact q.elim
     ·exact q.elim
    ·rename_i hn1 hn2;have ed:o.dr dr=dr:=by
      unfold aJ.dr;split
      ·rename_i e; exact absurd e (hn1 _ _)
      ·rename_i e; exact absurd e (hn2 _ _)
      ·rfl
     rw[ed];left;split at q
     ·rename_i v sd hq;obtain⟨hs,hk⟩:=ku q;rw[V.seq_eq] at hk;obtain⟨hqu,hc,ht⟩:=ZO R hh hq (hs h2);rw[bn hqu];refine⟨hc,?_⟩;have:=Kz.put (s:=s) (v:=rD g v) (t:=qt s o.op) hl hd R hp hn (by rw[ht]; rcases h2 with rfl|rfl; rfl; exact(Ho v).symm) hk;rw[<- hh] at this;have e2:({(s.put o.d (qt s o.op)) with hp:=s.hp}:AS)=s.put o.d (qt s o.op):=by cases o.d<;>rfl
      rw[e2] at this;exact this
     ·split at q
      ·exact NC hl hd R hh hp hn q
      ·rename_i b _;rcases h2 with h2|h2
       ·cases h2
       ·cases h2;obtain⟨qa,_⟩:=q;exact NC hl hd R hh hp hn (qa rfl)
   ·refine .inr ⟨h1,?_⟩;split at q
    ·split at q
     ·obtain⟨hs,q⟩:=ku q;obtain⟨v,hk⟩:=ah.guard (uo (C:=fun dr=>ah P dr (some false) _ _ h n (fun v h'=>v.seq fun v=>KK 0 (gV o.d (rD (some false) v) m) h') (fun _ _ _=>False)) q);rw[V.seq_eq] at hk;exact un rfl hk
     ·exact q.elim
    ·split at q
     ·rename_i v0 l sd e1 hb;split at q
      ·rename_i f cap s0 hb0;obtain⟨hs,q⟩:=ku q;cases hbl:Nat.blt f 4096 with
       |true =>
        rw[hbl] at q;obtain⟨v,hk⟩:=ah.guard (uo (C:=fun dr=>ah P dr (some false) f (l++cap) h n (fun v h'=>v.seq fun v=>KK 0 (gV o.d (rD (some false) v) m) h') (fun _ _ _=>False)) q);rw[V.seq_eq] at hk;exact un rfl hk
       |false =>
        rw[hbl] at q;cases h81:Nat.blt f 8192 with
        |false =>
         rw[h81] at q;cases dr with
         |true=>exact q.elim
         |false =>
          obtain⟨_,qb⟩:=q;exact un (v:=.int 0) rfl (qb rfl)
        |true =>
        rw[h81] at q;obtain⟨v,hk⟩:=ah.guard (uo (C:=fun dr=>ah P dr (some false) (f % 4096) (.agg cap::l) h n (fun v h'=>v.seq fun v=>KK 0 (gV o.d (rD (some false) v) m) h') (fun _ _ _=>False)) q);rw[V.seq_eq] at hk;exact un rfl hk
      ·exact q.elim
     ·exact q.elim
    ·split at q
     ·obtain⟨hs,hk⟩:=ku q;rw[V.seq_eq] at hk;exact un rfl hk
     ·obtain⟨_,qb⟩:=q;have e3:V.cnd false (phZ o.op)=rD (some false) (phZ o.op):=by cases o.op<;>rfl
      exact un (v:=phZ o.op) rfl (by rw[<- e3]; exact qb rfl)
theorem Xz{N pn nx n:Nat}{KK:Nat->Fm->Hz->Prop}{s:AS}{o:aJ}{dr:Bool}(hl:s.fr.length=N)(hd: ∀ i,o.d=some i->i<N)(R:Rp m s.fr)(hh:s.hp=h.au)(hp:s.pin=pn)(hn:s.nx=nx)
  (q:opZ P dr nx n o KK m h):(gv o.g s=some true/\iZ o s/\(opR P dr n o (Kz N pn nx (KK 0)) s\/opW P dr n o.d o.op (fun s'=> ∃ k,Kz N pn (nx+k) (KK k) s') s))\/(gv o.g s=some false/\Kz N pn nx (KK 0) (s.put o.d T.un)):=by
 unfold opZ at q;cases har:o.ar with
 |true =>
  rw[har] at q;simp only at q;unfold arZ at q;split at q
  ·rename_i f xs eo eg;cases hf:(o.fl&&Ir nx o m) with
   |false=>rw[hf] at q; exact q.elim
   |true =>
    rw[hf] at q;simp only[cond_true] at q;rw[Bool.and_eq_true] at hf;have hfl:iZ o s:=KE R (by rw[hn]; exact hf.2);refine .inl ⟨by rw[eg]; rfl,hfl,.inl (.inr ⟨har,hf.1,?_⟩)⟩;split at q
    ·rename_i l sd hb;obtain⟨hs,q⟩:=ku q;obtain⟨v,ob,c1,c2,c3,hk⟩:=q.ok;rw[eo];refine⟨v.aG,ob.map OV.aA,c1,?_,?_,?_⟩
     ·intro o' ho';cases ob with
      |none=>cases ho'
      |some ob=>cases ho'; exact c2 _ rfl
     ·intro hp' he _;rw[rZ R hb (hs (.inl rfl))];exact c3 hp' (by rw[<- hh]; exact he)
     ·rw[V.seq_eq] at hk;cases ob with
      |none =>
       show Kz N pn nx (KK 0) {(s.put o.d v.aG) with hp:=s.hp};rw[hh];exact Kz.put (v:=v) hl hd R hp hn rfl hk
      |some ob =>
       have e:jc s.hp n (some ob.aA)=Hz.au ((n,some ob)::h):=by rw[bP,hh]; rfl
       show Kz N pn nx (KK 0) {(s.put o.d v.aG) with hp:=jc s.hp n (some ob.aA)};rw[e];exact Kz.put (v:=v) hl hd R hp hn rfl hk
    ·exact q.elim
  ·exact q.elim
 |false =>
 rw[har] at q;simp only at q;cases had:o.ad with
 |false =>
  rw[had] at q;rcases UK hl hd R hh hp hn q with ⟨h1,h2,h3⟩|h1
  ·exact .inl ⟨h1,h2,h3.imp (fun h=>.inl ⟨har,jw (fun s' _ _ h=>⟨fun e=>(by rw[had] at e; cases e),h⟩) h⟩) id⟩
  ·exact .inr h1
 |true =>
  rw[had] at q;simp only at q;unfold adZ at q;split at q
  ·rename_i f xs eo eg;cases hf:(o.fl&&Ir nx o m) with
   |false=>rw[hf] at q; exact q.elim
   |true =>
    rw[hf] at q;simp only[cond_true] at q;rw[Bool.and_eq_true] at hf;have hfl:iZ o s:=KE R (by rw[hn]; exact hf.2);refine .inl ⟨by rw[eg]; rfl,hfl,.inl (.inl ⟨har,?_⟩)⟩;split at q
    ·rename_i l sd hb;obtain⟨hs,q⟩:=ku q;have ed:o.dr dr=false:=by unfold aJ.dr; rw[eo,hf.1]; cases dr<;>rfl
     rw[ed,eo];show aQ P f (xs.map s.ev) s.hp n _;rw[rZ R hb (hs (.inl rfl)),hh];have hx: ∀ {h':Hz} {s':AS},s'.hp=h'.au->(h'=h\/ ∃ o,h'=(n,some o)::h/\h.get n=none)-> ∀ i ob,s.hp i=some ob->s'.hp i=some ob:=by
      intro h' s' e1 e2 i ob hi;rw[e1];rw[hh] at hi;rcases e2 with rfl|⟨o',rfl,hn0⟩
      ·exact hi
      ·rw[bP];have hne:i≠n:=by
        rintro rfl;simp only[Hz.au,hn0] at hi; cases hi
       simp only[upd,if_neg hne]; exact hi
     rcases q.ok with q|⟨_,e,_⟩|⟨_,_,hn0,q⟩
     ·refine aQ.mono q ?_;rintro t hp' ⟨v,h',e1,e2,e3,hk⟩;rw[V.seq_eq] at hk;subst e2;exact⟨(fun e=>by cases e),fun _=>hx rfl (.inl (e3 rfl).1),Kz.put (v:=v) hl hd R hp hn e1 hk⟩
     ·cases e
     ·refine aQ.mono q ?_;rintro t hp' ⟨v,o',e1,e2,hk⟩;rw[V.seq_eq] at hk;subst e2;exact⟨(fun e=>by cases e),fun _=>hx rfl (.inr ⟨o',rfl,hn0⟩),Kz.put (v:=v) hl hd R hp hn e1 hk⟩
    ·exact q.elim
  ·exact q.elim
theorem Q7{N pn ml:Nat}{K:Fm->Hz->Nat->Prop}{dr:Bool}: ∀ {nx:Nat} {ops:List aJ} {i:Nat} {m:Fm} {h:Hz} {s:AS},O4 N ops=true->s.fr.length=N->Rp m s.fr->s.hp=h.au->s.pin=pn->s.nx=nx ->
  Q5 P dr ml nx K ops i m h->tu P dr ml (fun s=> ∃ m h,s.fr.length=N/\Rp m s.fr/\s.hp=h.au/\s.pin=pn/\K m h s.nx) ops i s:=by
 intro nx ops;induction ops generalizing nx with
 |nil =>
  intro i m h s _ hl R hh hp hn q;exact⟨m,h,hl,R,hh,hp,by show K m h (s.nx+ml); rw[hn]; exact q⟩
 |cons o r ih =>
  intro i m h s hd hl R hh hp hn q;simp only[O4,Bool.and_eq_true] at hd;have hd1: ∀ j,o.d=some j->j<N:=fun j e=>by
   have:=hd.1;rw[e] at this;simpa using this
  simp only[tu];rw[Ea];have next: ∀ s',s'.nx=s.nx->s'.pin=s.pin->Kz N pn nx (Q5 P dr ml nx K r (i+1)) s'->tu P dr ml (fun s=> ∃ m h,s.fr.length=N/\Rp m s.fr/\s.hp=h.au/\s.pin=pn/\K m h s.nx) r (i+1) s':=by
   rintro s' _ _ ⟨m',h',a1,a2,a3,a4,a5,a6⟩;exact ih hd.2 a1 a2 a3 a4 a5 a6
  have afT: ∀ s',(∃ k,Kz N pn (nx+k) (Q5 P dr ml (nx+k) K r (i+1)) s')->tu P dr ml (fun s=> ∃ m h,s.fr.length=N/\Rp m s.fr/\s.hp=h.au/\s.pin=pn/\K m h s.nx) r (i+1) s':=by
   rintro s' ⟨k,m',h',a1,a2,a3,a4,a5,a6⟩;exact ih hd.2 a1 a2 a3 a4 a5 a6
  rcases Xz hl hd1 R hh hp hn q with ⟨h1,h2,h3⟩|⟨h1,h2⟩
  ·refine .inl ⟨h1,h2,?_⟩;rw[hn];exact h3.imp (fun h=>h.imp (fun h=>⟨h.1,jw (fun s' a b c=>⟨c.1,next s' a b c.2⟩) h.2⟩) fun h=>⟨h.1,h.2.1,J4 (fun s' a b c=>next s' a b c) h.2.2⟩) (QS afT)
  ·exact .inr ⟨h1,next _ (eU _ _ _) (gq _ _ _) h2⟩
theorem oD{N pn:Nat}: ∀ {c:fB} {Q:Qz} {m:Fm} {h:Hz} {s:AS},sF N c=true->s.fr.length=N->Rp m s.fr->s.hp=h.au->s.pin=pn->az P N pn c Q m h s.nx->aw P c (Lift N pn Q) s:=by
 intro c;induction c with
 |skip=>intro Q m h s _ hl R hh hp q; exact⟨m,h,hl,R,hh,hp,q⟩
 |reg dr ops =>
  intro Q m h s hd hl R hh hp q;exact Q7 hd hl R hh hp rfl q
 |seq a b ia ib =>
  intro Q m h s hd hl R hh hp q;simp only[sF,Bool.and_eq_true] at hd;simp only[aw];refine kV ?_ (ia hd.1 hl R hh hp q);rintro e s' ⟨m',h',b1,b2,b3,b4,b5⟩;cases e with
  |normal=>exact ib hd.2 b1 b2 b3 b4 b5
  |exit j=>exact⟨m',h',b1,b2,b3,b4,b5⟩
  |ret=>exact⟨m',h',b1,b2,b3,b4,b5⟩
 |cond c a b ia ib =>
  intro Q m h s hd hl R hh hp q;simp only[sF,Bool.and_eq_true] at hd;simp only[az] at q;simp only[aw];split at q
  ·rename_i t e;rw[R.ev e];obtain⟨q1,q2⟩:=q;exact⟨fun e=>ia hd.1 hl R hh hp (q1 e),fun e=>ib hd.2 hl R hh hp (q2 e)⟩
  ·exact q.elim
 |blk id b ib =>
  intro Q m h s hd hl R hh hp q;simp only[aw];refine kV ?_ (ib hd hl R hh hp q);rintro e s' ⟨m',h',b1,b2,b3,b4,b5⟩;cases e with
  |normal=>exact⟨m',h',b1,b2,b3,b4,b5⟩
  |ret=>exact⟨m',h',b1,b2,b3,b4,b5⟩
  |exit j =>
   simp only at b5 ⊢;by_cases e:j=id
   ·subst e; simp at b5 ⊢; exact⟨m',h',b1,b2,b3,b4,b5⟩
   ·have e1:Nat.beq j id=false:=by
     cases hb:Nat.beq j id with
     |false=>rfl
     |true=>exact absurd (fC hb) e
    have e2:(j==id)=false:=by simpa using e
    rw[e1] at b5; rw[e2];exact⟨m',h',b1,b2,b3,b4,b5⟩
 |exit i=>intro Q m h s _ hl R hh hp q; exact⟨m,h,hl,R,hh,hp,q⟩
 |ret=>intro Q m h s _ hl R hh hp q; exact⟨m,h,hl,R,hh,hp,q⟩
 |loop b ib =>
  intro Q m h s _ hl R hh hp q;have:=q.ok s.fr hl R;rw[<- hh,<- hp] at this;simp only[aw];rw[hp] at this;have e:(⟨s.fr,s.hp,s.nx,pn⟩:AS)=s:=by rw[<- hp]
  rw[e] at this;exact this
end
end Go.Ab
