/-
 The typed layer, part 1: typed values, rows, objects. Definitions alone.
-/
import Derived.Test.YtkomllaebngbfaaGreatDoorLd
import Derived.Test.YtkomllaebngbfaaGreatDoorLc
namespace Go.Ab
inductive Dat where
 |lin (x:Xw)
 |O7 (x:xU)
 |rule (x:Rule)
 |iC (x:aJ)
 |cnt (x:Cnt)
 |prop (x:Prop')
 |clause (x:Clause)
 |elem (x:Elem)
@[reducible] def aae(l:List Bool):T:=.sl 0 false (l.map T.bool)
@[reducible] def aaf(l:List (List Int)):T:=.sl 0 false (l.map Go.Ab.ints)
inductive Rw where
 |ints (l:List Int)
 |bools (l:List Bool)
 |strs (l:List Str)
 |nH (l:List (List Int))
 |mO (l:List (List Bool))
 |mP (l:List (List (List Int)))
 |zy (l:List Xw)
 |o7 (l:List xU)
 |rules (l:List Rule)
 |cnts (l:List Cnt)
 |clauses (l:List Clause)
 |elems (l:List Elem)
 |nil
inductive V where
 |int (n:Int)
 |bool (b:Bool)
 |u8 (n:Int)
 |str (s:Str)
 |dat (d:Dat)
 |agg (l:List V)
 |row (k:Nat) (full:Bool) (r:Rw)
 |Gj (k:Nat) (full:Bool) (l:List V)
 |ref (k:Nat) (v:V)
 |own (i:Nat)
 |ptr (i j off:Nat)
 |lF (i lo hi:Nat)
 |fn (f:FuncId) (cap:List V)
 |iF (l:List V)
 |cnd (b:Bool) (v:V)
 |raw (t:T)
def Dat.aG:Dat->T
 | .lin x=>OT x
 | .O7 x=>MG x
 | .rule x=>IJ x
 | .iC x=>UC x
 | .cnt x=>OU x
 | .prop x=>UD x
 | .clause x=>EG x
 | .elem x=>uj x
def Dat.kd:Dat->Nat
 | .lin _=>5
 | .O7 _=>7
 | .rule _=>19
 | .iC _=>11
 | .cnt _=>3
 | .prop _=>7
 | .clause _=>4
 | .elem _=>3
def Rw.bQ:Rw->List T
 | .ints l=>l.map T.int
 | .bools l=>l.map T.bool
 | .strs l=>l.map eS
 | .nH l=>l.map Go.Ab.ints
 | .mO l=>l.map aae
 | .mP l=>l.map aaf
 | .zy l=>l.map OT
 | .o7 l=>l.map MG
 | .rules l=>l.map IJ
 | .cnts l=>l.map OU
 | .clauses l=>l.map EG
 | .elems l=>l.map uj
 | .nil=>[]
mutual
def V.aG:V->T
 | .int n=>.int n
 | .bool b=>.bool b
 | .u8 n=>.lit (.int .u8 n)
 | .str s=>eS s
 | .dat d=>d.aG
 | .agg l=>.agg (V.bQ l)
 | .row k f r=>.sl k f r.bQ
 | .Gj k f l=>.sl k f (V.bQ l)
 | .ref k v=>.ref k v.aG
 | .own i=>.own i
 | .ptr i j off=>.ptr i j off
 | .lF i lo hi=>.lF i lo hi
 | .fn f cap=>.fn f (V.bQ cap)
 | .iF l=>.iF (V.bQ l)
 | .cnd b v=>bif b then v.aG else T.un
 | .raw t=>t
def V.bQ:List V->List T
 |[]=>[]
 |v::r=>v.aG::V.bQ r
end
def Dat.cells:Dat->List V
 | .lin x=>[.int x.c,.int x.n,.int x.t,.int x.f]
 | .O7 x=>[.int x.message,.int x.BF,.int x.bound.c,.int x.bound.n,.int x.bound.t,.int x.bound.f]
 | .rule x=>[.str x.name,.int x.kind,.int x.fr,.int x.to,.int x.ig,.int x.zB,.row 0 false (.ints x.response),.row 7 false (.o7 x.guards),.row 0 false (.ints x.ex),.row 0 false (.ints x.all),.int x.read,.int x.write,.row 0 false (.ints x.send),.int x.pos,.row 0 false (.ints x.left),.row 0 false (.ints x.right),.row 0 false (.ints x.parent),.int x.direction]
 | .iC x=>[.str x.name,.int x.topology,.row 0 false (.strs x.states),.row 0 false (.strs x.messages),.row 0 false (.strs x.values),.int x.fault,.row 5 false (.zy x.bY),.row 0 false (.ints x.initial),.row 0 false (.ints x.leader),.row 19 false (.rules x.rules)]
 | .cnt x=>[.row 0 false (.ints x.states),.int x.least]
 | .prop x=>[.str x.name,.int x.kind,.row 0 false (.ints x.start),.row 3 false (.cnts x.bad),.row 0 false (.ints x.adjacent),.row 0 false (.ints x.goal)]
 | .clause x=>[.row 0 false (.nH x.each),.row 0 false (.ints x.values),.row 0 false (.ints x.some)]
 | .elem x=>[.int x.value,.row 0 false (.ints x.counts)]
theorem Dat.Dq(d:Dat):d.aG= .agg (V.bQ d.cells):=by cases d<;>rfl
theorem Dat.aag(d:Dat):d.aG.kd=d.kd:=by cases d<;>rfl
def Rw.len:Rw->Nat
 | .ints l=>l.length
 | .bools l=>l.length
 | .strs l=>l.length
 | .nH l=>l.length
 | .mO l=>l.length
 | .mP l=>l.length
 | .zy l=>l.length
 | .o7 l=>l.length
 | .rules l=>l.length
 | .cnts l=>l.length
 | .clauses l=>l.length
 | .elems l=>l.length
 | .nil=>0
def Rw.lenV:Rw->V
 | .ints l=>.int l.length
 | .bools l=>.int l.length
 | .strs l=>.int l.length
 | .nH l=>.int l.length
 | .mO l=>.int l.length
 | .mP l=>.int l.length
 | .zy l=>.int l.length
 | .o7 l=>.int l.length
 | .rules l=>.int l.length
 | .cnts l=>.int l.length
 | .clauses l=>.int l.length
 | .elems l=>.int l.length
 | .nil=>.int 0
def Rw.rng(n:Int):Rw->Prop
 | .ints l=>0<=n/\n<l.length
 | .bools l=>0<=n/\n<l.length
 | .strs l=>0<=n/\n<l.length
 | .nH l=>0<=n/\n<l.length
 | .mO l=>0<=n/\n<l.length
 | .mP l=>0<=n/\n<l.length
 | .zy l=>0<=n/\n<l.length
 | .o7 l=>0<=n/\n<l.length
 | .rules l=>0<=n/\n<l.length
 | .cnts l=>0<=n/\n<l.length
 | .clauses l=>0<=n/\n<l.length
 | .elems l=>0<=n/\n<l.length
 | .nil=>False
def Rw.qV(n:Int):Rw->Prop
 | .ints l=>0<=n/\n<=l.length
 | .bools l=>0<=n/\n<=l.length
 | .strs l=>0<=n/\n<=l.length
 | .nH l=>0<=n/\n<=l.length
 | .mO l=>0<=n/\n<=l.length
 | .mP l=>0<=n/\n<=l.length
 | .zy l=>0<=n/\n<=l.length
 | .o7 l=>0<=n/\n<=l.length
 | .rules l=>0<=n/\n<=l.length
 | .cnts l=>0<=n/\n<=l.length
 | .clauses l=>0<=n/\n<=l.length
 | .elems l=>0<=n/\n<=l.length
 | .nil=>n=0
def Rw.get(i:Nat):Rw->V
 | .ints l=>.int (l.getD i 0)
 | .bools l=>.bool (l.getD i false)
 | .strs l=>.str (l.getD i [])
 | .nH l=>.row 0 false (.ints (l.getD i []))
 | .mO l=>.row 0 false (.bools (l.getD i []))
 | .mP l=>.row 0 false (.nH (l.getD i []))
 | .zy l=>.dat (.lin (l.getD i default))
 | .o7 l=>.dat (.O7 (l.getD i default))
 | .rules l=>.dat (.rule (l.getD i default))
 | .cnts l=>.dat (.cnt (l.getD i default))
 | .clauses l=>.dat (.clause (l.getD i default))
 | .elems l=>.dat (.elem (l.getD i default))
 | .nil=>.raw .any
def Rw.take(i:Nat):Rw->Rw
 | .ints l=>.ints (l.take i)
 | .bools l=>.bools (l.take i)
 | .strs l=>.strs (l.take i)
 | .nH l=>.nH (l.take i)
 | .mO l=>.mO (l.take i)
 | .mP l=>.mP (l.take i)
 | .zy l=>.zy (l.take i)
 | .o7 l=>.o7 (l.take i)
 | .rules l=>.rules (l.take i)
 | .cnts l=>.cnts (l.take i)
 | .clauses l=>.clauses (l.take i)
 | .elems l=>.elems (l.take i)
 | .nil=>.nil
def Rw.drop(i:Nat):Rw->Rw
 | .ints l=>.ints (l.drop i)
 | .bools l=>.bools (l.drop i)
 | .strs l=>.strs (l.drop i)
 | .nH l=>.nH (l.drop i)
 | .mO l=>.mO (l.drop i)
 | .mP l=>.mP (l.drop i)
 | .zy l=>.zy (l.drop i)
 | .o7 l=>.o7 (l.drop i)
 | .rules l=>.rules (l.drop i)
 | .cnts l=>.cnts (l.drop i)
 | .clauses l=>.clauses (l.drop i)
 | .elems l=>.elems (l.drop i)
 | .nil=>.nil
def Rw.app:Rw->Rw->Option Rw
 |r,.nil=>some r
 | .nil,r=>some r
 | .ints a,.ints b=>some (.ints (a++b))
 | .bools a,.bools b=>some (.bools (a++b))
 | .strs a,.strs b=>some (.strs (a++b))
 | .nH a,.nH b=>some (.nH (a++b))
 | .mO a,.mO b=>some (.mO (a++b))
 | .mP a,.mP b=>some (.mP (a++b))
 | .zy a,.zy b=>some (.zy (a++b))
 | .o7 a,.o7 b=>some (.o7 (a++b))
 | .rules a,.rules b=>some (.rules (a++b))
 | .cnts a,.cnts b=>some (.cnts (a++b))
 | .clauses a,.clauses b=>some (.clauses (a++b))
 | .elems a,.elems b=>some (.elems (a++b))
 |_,_=>none
def Rw.kd:Rw->Nat
 | .ints _=>0
 | .bools _=>0
 | .strs _=>0
 | .nH _=>0
 | .mO _=>0
 | .mP _=>0
 | .zy _=>5
 | .o7 _=>7
 | .rules _=>19
 | .cnts _=>3
 | .clauses _=>4
 | .elems _=>3
 | .nil=>0
def V.one:V->Option Rw
 | .int n=>some (.ints [n])
 | .bool b=>some (.bools [b])
 | .str s=>some (.strs [s])
 | .row 0 false (.ints l)=>some (.nH [l])
 | .row 0 false (.bools l)=>some (.mO [l])
 | .row 0 false (.nH l)=>some (.mP [l])
 | .dat (.lin x)=>some (.zy [x])
 | .dat (.O7 x)=>some (.o7 [x])
 | .dat (.rule x)=>some (.rules [x])
 | .dat (.cnt x)=>some (.cnts [x])
 | .dat (.clause x)=>some (.clauses [x])
 | .dat (.elem x)=>some (.elems [x])
 | .agg [.int a,.row 0 false (.ints c)]=>some (.elems [⟨a,c⟩])
 | .agg [.row 0 false (.ints c),.int a]=>some (.cnts [⟨c,a⟩])
 | .agg [.row 0 false (.nH e),.row 0 false (.ints v),.row 0 false (.ints s)]=>some (.clauses [⟨e,v,s⟩])
 |_=>none
def Rw.Ti:List V->Option Rw
 |[]=>some .nil
 |v::r=>match v.one,Rw.Ti r with
  |some a,some b=>a.app b
  |_,_=>none
inductive OV where
 |row (ty k:Nat) (r:Rw) (x:List V)
 |box (ty k:Nat) (v:V)
 |map (ty:Nat) (es:List (Int×List Bool)) (x:List (Int×V))
def J6(e:Int×List Bool):T:=.iF [.int e.1,.sl 0 false (e.2.map T.bool)]
def XR(e:Int×V):T:=.iF [.int e.1,e.2.aG]
def OV.bJ:OV->Ob
 | .row ty k r x=>⟨ty,k,r.bQ++V.bQ x⟩
 | .box ty k v=>⟨ty,k,[v.aG]⟩
 | .map ty es x=>⟨ty,dK,es.map J6++x.map XR⟩
abbrev Fm:=List (Nat×V)
def Fm.get(i:Nat):Fm->Option V
 |[]=>none
 |(j,v)::r=>bif Nat.beq j i then some v else Fm.get i r
abbrev Hz:=List (Nat×Option OV)
def Hz.get(i:Nat):Hz->Option OV
 |[]=>none
 |(j,o)::r=>bif Nat.beq j i then o else Hz.get i r
def Hz.aI(h:Hz):Hp:=fun i=>(h.get i).map OV.bJ
mutual
def BM:T->V
 | .lit (.int .i64 n)=>.int n
 | .lit (.int .u8 n)=>.u8 n
 | .lit (.bool b)=>.bool b
 | .lit (.string b)=>.str b.data.toList
 | .sl k f []=>.row k f .nil
 | .agg l=>.agg (Ti l)
 | .fn f l=>.fn f (Ti l)
 |t=>.raw t
def Ti:List T->List V
 |[]=>[]
 |t::r=>BM t::Ti r
end
def V.kd:V->Option Nat
 | .dat d=>some d.kd
 | .agg l=>some (l.length+1)
 | .cnd _ _=>none
 | .raw _=>none
 |_=>some 0
def V.cells:V->Option (List V)
 | .dat d=>some d.cells
 | .agg l=>some l
 | .cnd _ _=>none
 | .raw _=>none
 |v=>some [v]
def V.iL(h:Hz):V->Bool
 | .own i=>(h.get i).isSome
 | .ptr i _ _=>(h.get i).isSome
 | .lF i _ _=>(h.get i).isSome
 | .cnd _ _=>false
 | .raw _=>false
 | .iF _=>false
 |_=>true
def V.part(off:Nat):Nat->V->Option V
 |0,.dat d=>d.cells[off]?
 |0,.agg l=>l[off]?
 |k+1,.dat (.O7 x)=>bif (Nat.beq off 2)&&(Nat.beq k 4) then some (.dat (.lin x.bound)) else none
 |k+1,.agg l=>some (.agg ((l.drop off).take k))
 |_,_=>none
inductive VC(p k:Prop):Prop where
 |mk:p->k->VC p k
inductive Fork(b:Bool)(x y:Prop):Prop where
 |mk:(b=true->x)->(b=false->y)->Fork b x y
inductive Sd where
 |no
 |yes (p:Prop)
def Sd.holds:Sd->Prop
 | .no=>True
 | .yes p=>p
def Sd.and:Sd->Sd->Sd
 | .no,b=>b
 |a,.no=>a
 | .yes p,.yes q=>.yes (p/\q)
def Sd.imp(t:Bool)(b:Bool):Sd->Sd
 | .no=>.no
 | .yes p=>.yes (t=b->p)
def Sd.vc(g:Option Bool)(k:Prop):Sd->Prop
 | .no=>k
 | .yes p=>match g with
  |none=>VC p k
  |some b=>VC (b=true->p) k
def V.bare:V->V×Sd
 | .cnd c v=>(v,.yes (c=true))
 |v=>(v,.no)
mutual
def V.free:V->Bool
 | .own _=>false
 | .ptr _ _ _=>false
 | .lF _ _ _=>false
 | .cnd _ _=>false
 | .raw t=>t.free
 | .agg l=>V.aT l
 | .fn _ l=>V.aT l
 | .iF l=>V.aT l
 |_=>true
def V.aT:List V->Bool
 |[]=>true
 |v::r=>V.free v&&V.aT r
end
def zA(m:Fm):X->Option V
 | .t n=>m.get n
 | .c t=>some (BM t)
def evL(m:Fm):List X->Option (List V)
 |[]=>some []
 |x::r=>match zA m x,evL m r with
  |some v,some l=>some (v::l)
  |_,_=>none
abbrev xW:=Option (V×Sd)
def IV(m:Fm)(x:X)(f:V->xW):xW :=
 match zA m x with
 |some v=>match v.bare with
  |(u,s)=>match f u with
   |some (r,s')=>some (r,s.and s')
   |none=>none
 |none=>none
def YZ(m:Fm)(x y:X)(f:V->V->xW):xW:=IV m x fun u=>IV m y fun v=>f u v
def okI(n:Int):Prop:= -9223372036854775808<=n/\n<9223372036854775808
def acO(a b:Int):Int:=a.fdiv (2 ^ min b.toNat 64)
def aah(op:BinOp):V->V->xW
 | .int a,.int b=>match op with
  | .add=>some (.int (a+b),.yes (okI (a+b)))
  | .sub=>some (.int (a-b),.yes (okI (a-b)))
  | .mul=>some (.int (a*b),.yes (okI (a*b)))
  | .eql=>some (.bool (a==b),.no)
  | .neq=>some (.bool (a !=b),.no)
  | .lss=>some (.bool (decide (a<b)),.no)
  | .leq=>some (.bool (decide (a<=b)),.no)
  | .gtr=>some (.bool (decide (b<a)),.no)
  | .geq=>some (.bool (decide (b<=a)),.no)
  |_=>none
 | .u8 a,.u8 b=>match op with
  | .eql=>some (.bool (a==b),.no)
  | .neq=>some (.bool (a !=b),.no)
  | .lss=>some (.bool (decide (a<b)),.no)
  | .leq=>some (.bool (decide (a<=b)),.no)
  | .gtr=>some (.bool (decide (b<a)),.no)
  | .geq=>some (.bool (decide (b<=a)),.no)
  |_=>none
 | .str a,.str b=>match op with
  | .eql=>some (.bool (a==b),.no)
  | .neq=>some (.bool (!(a==b)),.no)
  | .add=>some (.str (a++b),.yes (a.length+b.length<=9223372036854775807))
  |_=>none
 | .raw (.lit (.int .u64 a)),.raw (.lit (.int .u64 b))=>match op with
  | .shr=>some (.raw (.lit (.int .u64 (acO a b))),.yes (0<=b))
  | .and=>some (.raw (.lit (.int .u64 (Zl .u64 a b))),.no)
  | .eql=>some (.bool (a==b),.no)
  | .geq=>some (.bool (decide (b<=a)),.no)
  |_=>none
 |_,_=>none
def zh:X->Bool
 | .c (.lit (.bool true))=>true
 |_=>false
def wC:X->Bool
 | .c (.lit (.bool false))=>true
 |_=>false
def Y0(t:Bool)(xa xb:X):V->V->Option V
 | .bool x,.bool y=>bif zh xa then some (.bool (t||y)) else bif wC xb then some (.bool (t&&x)) else some (.bool (bif t then x else y))
 | .int x,.int y=>some (.int (bif t then x else y))
 | .str x,.str y=>some (.str (bif t then x else y))
 |_,_=>none
def Ve(t:Bool)(xa xb:X)(a b:V×Sd):xW :=
 match a,b with
 |(a,sa),(b,sb)=>match Y0 t xa xb a b with
  |some v=>some (v,(sa.imp t true).and (sb.imp t false))
  |none=>none
def dL{α:Type}(b:Bool)(x:Option α):Option α:=bif b then x else none
def V.O8(k:Nat):Option V->xW
 |some u=>some (.ref k u,.no)
 |none=>none
def V.EJ:Option V->xW
 |some u=>some (u,.no)
 |none=>none
def faZ(h:Hz)(off k:Nat):V->xW
 | .ref kt v=>dL (!(Nat.beq kt 0)&&jc (aU kt) off k) (V.O8 k (v.part off k))
 | .ptr i j o=>dL (h.get i).isSome (some (.ptr i j (o+off),.no))
 |_=>none
def fvZ(off k:Nat)(v:V):xW :=
 match v.kd with
 |some kt=>dL (!(Nat.beq kt 0)&&jc (aU kt) off k) (V.EJ (v.part off k))
 |none=>none
def aai:List V->Nat->Option V
 |[],_=>none
 |v::_,0=>some v
 |_::r,n+1=>aai r n
def iaZ(h:Hz)(k:Nat):V->V->xW
 | .Gj k' _ l,.int n=>match aai l n.toNat with
  |some v=>dL (Nat.beq k' k) (some (.ref k v,.yes (0<=n)))
  |none=>none
 | .row k' _ r,.int n=>dL (Nat.beq k' k) (some (.ref k (r.get n.toNat),.yes (r.rng n)))
 | .own o,.int n=>match h.get o with
  |some (.row _ k' r [])=>dL (Nat.beq k' k) (some (.ptr o n.toNat 0,.yes (r.rng n)))
  |_=>none
 | .lF o lo hi,.int n=>match h.get o with
  |some (.row _ k' _ [])=>dL (Nat.beq k' k) (some (.ptr o (lo+n.toNat) 0,.yes (0<=n/\n<(hi-lo:Nat))))
  |_=>none
 |_,_=>none
def chZ:V->V->xW
 | .str s,.int n=>some (.u8 (s.getD n.toNat 0).toNat,.yes (0<=n/\n<s.length))
 | .str s,.u8 n=>some (.u8 (s.getD n.toNat 0).toNat,.yes (0<=n/\n<s.length))
 |_,_=>none
def ldB(k j off ko:Nat)(v:V):xW :=
 bif Nat.beq j 0 then(bif Nat.beq off 0&&Nat.beq ko k then some (v,.no) else dL (!(Nat.beq ko 0)&&jc (aU ko) off k) (V.EJ (v.part off k))) else none
def ldR(k j off ko:Nat)(r:Rw):xW :=
 bif Nat.beq off 0&&Nat.beq ko k then some (r.get j,.yes (r.rng j)) else
  match (r.get j).part off k with
  |some u=>dL (!(Nat.beq ko 0)&&jc (aU ko) off k) (some (u,.yes (r.rng j)))
  |none=>none
def ldZ(h:Hz)(k:Nat):V->xW
 | .ref k' v=>dL (Nat.beq k' k&&Nat.blt 0 (aU k)) (some (v,.no))
 | .ptr i j off=>match h.get i with
  |some (.box _ ko v)=>ldB k j off ko v
  |some (.row _ ko r [])=>ldR k j off ko r
  |_=>none
 |_=>none
def ncZ(h:Hz):V->xW
 | .ref k v=>some (.ref k v,.no)
 | .ptr i j o=>dL (h.get i).isSome (some (.ptr i j o,.no))
 | .fn f l=>some (.fn f l,.no)
 |_=>none
def aaj(h:Hz)(str:Bool):V->xW
 | .row _ _ r=>dL (!str) (some (r.lenV,.no))
 | .Gj _ _ l=>dL (!str) (some (.int l.length,.no))
 | .str s=>dL str (some (.int s.length,.no))
 | .own o=>match h.get o with
  |some (.row _ k r x)=>dL (!str&& !(Nat.beq k dK)) (match x with|[]=>some (r.lenV,.no)|x=>some (.int (r.len+x.length),.no))
  |_=>none
 | .lF o lo hi=>dL (!str&&(h.get o).isSome) (some (.int (hi-lo:Nat),.no))
 |_=>none
def mxZ:V->V->xW
 | .int a,.int b=>some (.int (max a b),.no)
 |_,_=>none
def mnZ:V->V->xW
 | .int a,.int b=>some (.int (min a b),.no)
 |_,_=>none
def yE(m:Fm):List X->Option (List V×Sd)
 |[]=>some ([],.no)
 |x::r=>match zA m x,yE m r with
  |some v,some (l,s)=>match v.bare with|(u,s')=>some (u::l,s'.and s)
  |_,_=>none
def Qr:List (Nat×Nat×X)->List V->List V->Option (List V)
 |[],[],z=>some z
 |(off,n,_)::ps,v::vs,z=>match v.cells with
  |some c=>dL (Nat.beq c.length n&&Nat.ble (off+n) z.length) (Qr ps vs (z.take off++c++z.drop (off+n)))
  |none=>none
 |_,_,_=>none
def zO(h:Hz):List V->Bool
 |[]=>true
 |v::r=>v.iL h&&zO h r
def mkZ(m:Fm)(h:Hz)(z:List T)(ps:List (Nat×Nat×X)):xW :=
 match yE m (ps.map fun p=>p.2.2) with
 |some (vs,s)=>match Qr ps vs (Ti z) with
  |some l=>dL (zO h vs) (some (.agg l,s))
  |none=>none
 |none=>none
def H8(k:Nat):List V->Bool
 |[]=>true
 |v::r=>(match v.kd with|some k'=>Nat.beq k' k|none=>false)&&H8 k r
def Vf(n:Nat):List (Nat×X)->List V->List V->Option (List V)
 |[],[],z=>some z
 |(i,_)::ps,v::vs,z=>dL (Nat.blt i n) (Vf n ps vs (z.set i v))
 |_,_,_=>none
def msZ(m:Fm)(h:Hz)(k:Nat)(z:T)(n:Nat)(ps:List (Nat×X)):xW :=
 match yE m (ps.map fun p=>p.2) with
 |some (vs,s)=>match Vf n ps vs (List.replicate n (BM z)) with
  |some l=>dL ((z.kd==k)&&z.free&&H8 k vs&&zO h vs&&V.aT vs&&Nat.ble (n*aU k) 16777216&&Nat.blt 0 (aU k))
    (match Rw.Ti l with
    |some r=>some (.row k true r,s)
    |none=>some (.Gj k true l,s))
  |none=>none
 |none=>none
def Y1(k k':Nat):Rw->Bool
 | .nil=>true
 |_=>Nat.beq k' k
def Gl(m:Fm):Option X->Option (Option V×Sd)
 |none=>some (none,.no)
 |some x=>match zA m x with
  |some v=>match v.bare with|(u,s)=>some (some u,s)
  |none=>none
def Vg(k k':Nat)(f:Bool)(r:Rw):Option V->Option V->Option V->xW
 |none,none,none=>dL (Y1 k k' r) (some (.row k f r,.no))
 |some (.int a),none,none=>dL (Y1 k k' r) (some (.row k f (r.drop a.toNat),.yes (r.qV a)))
 |none,some (.int b),none=>dL (Y1 k k' r) (some (.row k (f&&decide (b=r.len)) (r.take b.toNat),.yes (r.qV b)))
 |some (.int a),some (.int b),none=>dL (Y1 k k' r) (some (.row k false ((r.take b.toNat).drop a.toNat),.yes (0<=a/\a<=b/\r.qV b)))
 |none,some (.int b),some (.int c)=>dL (Y1 k k' r) (some (.row k (decide (b=c)) (r.take b.toNat),.yes (0<=b/\b<=c/\r.qV c)))
 |_,_,_=>none
def Vh(k i ko:Nat)(r:Rw):Option V->Option V->Option V->xW
 |some (.int a),none,none=>dL (Nat.beq ko k) (some (.lF i a.toNat r.len,.yes (r.qV a)))
 |none,some (.int b),none=>dL (Nat.beq ko k) (some (.lF i 0 b.toNat,.yes (r.qV b)))
 |some (.int a),some (.int b),none=>dL (Nat.beq ko k) (some (.lF i a.toNat b.toNat,.yes (0<=a/\a<=b/\r.qV b)))
 |_,_,_=>none
def O9(k i ko:Nat)(r:Rw)(xs:List V):Option V->Option V->Option V->xW
 |none,some (.int b),none=>dL (Nat.beq ko k) (some (.lF i 0 b.toNat,.yes (r.qV b)))
 |lo,hi,mx=>match xs with|[]=>Vh k i ko r lo hi mx|_=>none
def slZ(h:Hz)(x:Bool)(k:Nat)(v:V)(lo hi mx:Option V):xW :=
 match v with
 | .row k' f r=>Vg k k' f r lo hi mx
 | .own i=>bif x then(match h.get i with
  |some (.row _ ko r xs)=>O9 k i ko r xs lo hi mx
  |_=>none) else none
 |_=>none
def slX(m:Fm)(h:Hz)(b:Bool)(k:Nat)(x:X)(lo hi mx:Option X):xW :=
 IV m x fun v=>match Gl m lo,Gl m hi,Gl m mx with
  |some (lo,s1),some (hi,s2),some (mx,s3)=>match slZ h b k v lo hi mx with
   |some (u,s)=>some (u,s1.and (s2.and (s3.and s)))
   |none=>none
  |_,_,_=>none
def ssZ(s:Str):Option V->Option V->xW
 |some (.int a),none=>some (.str (s.drop a.toNat),.yes (0<=a/\a<=s.length))
 |none,some (.int b)=>some (.str (s.take b.toNat),.yes (0<=b/\b<=s.length))
 |some (.int a),some (.int b)=>some (.str ((s.take b.toNat).drop a.toNat),.yes (0<=a/\a<=b/\b<=s.length))
 |_,_=>none
def ssX(m:Fm)(x:X)(lo hi:Option X):xW :=
 IV m x fun v=>match v,Gl m lo,Gl m hi with
  | .str s,some (lo,s1),some (hi,s2)=>match ssZ s lo hi with
   |some (u,s)=>some (u,s1.and (s2.and s))
   |none=>none
  |_,_,_=>none
def exZ(i:Nat):V->xW
 | .iF l=>match l[i]? with|some v=>some (v,.no)|none=>none
 |_=>none
def aak(ne:Bool)(n:Nat):V->V->xW
 | .dat (.lin x),.dat (.lin y)=>dL (Nat.beq n 4) (some (.bool (bif ne then !(x==y) else x==y),.no))
 | .dat (.O7 x),.dat (.O7 y)=>dL (Nat.beq n 6) (some (.bool (bif ne then !(x==y) else x==y),.no))
 |_,_=>none
def D8(n:Int):List (Int×List Bool)->Option (List Bool)
 |[]=>none
 |(m,v)::r=>bif n==m then some v else D8 n r
def mfZ(m:Fm)(h:Hz)(f:FuncId)(cap:List X):xW :=
 match yE m cap with
 |some (l,s)=>dL (zO h l&&H8 0 l&&Nat.blt f 4096) (some (.fn f l,s))
 |none=>none
def mbZ(f:FuncId):V->xW
 | .agg l=>dL (Nat.blt f 4096) (some (.fn (f+4096) l,.no))
 | .dat d=>dL (Nat.blt f 4096) (some (.fn (f+4096) d.cells,.no))
 |_=>none
def aal:V->xW
 | .row _ true r=>some (r.lenV,.no)
 |_=>none
def saZ(n:Nat):V->xW
 | .ref k (.agg l)=>match Rw.Ti l with
  |some r=>dL (Nat.beq k (n+1)&&Nat.beq l.length n&&Nat.blt 0 n) (some (.row 0 true r,.no))
  |none=>none
 |_=>none
def qz(m:Fm)(h:Hz):kS->xW
 | .mv x=>match zA m x with|some v=>some (v,.no)|none=>none
 | .pick c a b=>IV m c fun c=>match c,zA m a,zA m b with
  | .bool t,some va,some vb=>Ve t a b va.bare vb.bare
  |_,_,_=>none
 | .bin op x y=>YZ m x y (aah op)
 | .bb ne x y=>YZ m x y fun x y=>match x,y with
  | .bool a,.bool b=>some (.bool (bif ne then !(a==b) else a==b),.no)
  |_,_=>none
 | .not x=>IV m x fun v=>match v with| .bool b=>some (.bool !b,.no)|_=>none
 | .conv .i64 x=>IV m x fun v=>match v with
  | .int n=>some (.int n,.yes (okI n))
  | .u8 n=>some (.int n,.yes (okI n))
  | .raw (.lit (.int .u64 n))=>some (.int n,.yes (okI n))
  |_=>none
 | .conv .u64 x=>IV m x fun v=>match v with
  | .int n=>some (.raw (.lit (.int .u64 n)),.yes (0<=n/\n<18446744073709551616))
  |_=>none
 | .conv .u8 x=>IV m x fun v=>match v with
  | .raw (.lit (.int .u64 n))=>some (.u8 n,.yes (0<=n/\n<256))
  |_=>none
 | .fa off k x=>IV m x (faZ h off k)
 | .fv off k x=>IV m x (fvZ off k)
 | .ia k x i=>YZ m x i (iaZ h k)
 | .ch x i=>YZ m x i chZ
 | .ld k x=>IV m x (ldZ h k)
 | .nc x=>IV m x (ncZ h)
 | .len s x=>IV m x (aaj h s)
 | .mx x y=>YZ m x y mxZ
 | .mn x y=>YZ m x y mnZ
 | .mk z ps=>mkZ m h z ps
 | .ms _ k z n ps=>msZ m h k z n ps
 | .sl k x lo hi mx=>slX m h false k x lo hi mx
 | .NR k x lo hi mx=>slX m h true k x lo hi mx
 | .ss x lo hi=>ssX m x lo hi
 | .ex x i=>IV m x (exZ i)
 | .mf f cap=>mfZ m h f cap
 | .eqs ne n x y=>YZ m x y (aak ne n)
 | .E5 x=>IV m x aal
 | .mb f x=>IV m x (mbZ f)
 | .sa n x=>IV m x (saZ n)
 |_=>none
theorem Y2(b:ByteArray):eS b.data.toList= .lit (.string b):=by
 unfold eS bs; simp
mutual
theorem xA:(t:T)->(BM t).aG=t
 | .lit v=>by
  cases v with
  |int k n=>cases k<;>simp[BM,V.aG]
  |bool b=>simp[BM,V.aG]
  |string b=>simp only[BM,V.aG]; exact Y2 b
  |_=>simp[BM,V.aG]
 | .agg l=>by simp only[BM,V.aG]; rw[xB l]
 | .sl k f l=>by cases l<;>simp[BM,V.aG,Rw.bQ]
 | .ref k t=>by simp[BM,V.aG]
 | .own i=>by simp[BM,V.aG]
 | .ptr i j k=>by simp[BM,V.aG]
 | .lF i j k=>by simp[BM,V.aG]
 | .fn f l=>by simp only[BM,V.aG]; rw[xB l]
 | .iF l=>by simp[BM,V.aG]
 | .any=>by simp[BM,V.aG]
theorem xB:(l:List T)->V.bQ (Ti l)=l
 |[]=>rfl
 |t::r=>by simp only[Ti,V.bQ]; rw[xA t,xB r]
end
theorem nS(l:List V):V.bQ l=l.map V.aG:=by
 induction l with
 |nil=>rfl
 |cons v r ih=>simp[V.bQ,ih]
theorem jd(l:List V):(V.bQ l).length=l.length:=by rw[nS]; simp
theorem xC(a b:List V):V.bQ (a++b)=V.bQ a++V.bQ b:=by simp[nS]
theorem Gm(a:List V)(n:Nat):V.bQ (a.take n)=(V.bQ a).take n:=by simp[nS]
theorem Gn(a:List V)(n:Nat):V.bQ (a.drop n)=(V.bQ a).drop n:=by simp[nS]
def Rp(m:Fm)(fr:List T):Prop:= ∀ i v,m.get i=some v->fr[i]? =some v.aG
theorem Rp.getD{m:Fm}{fr:List T}(R:Rp m fr){i:Nat}{v:V}{d:T}(h:m.get i=some v):fr.getD i d=v.aG:=by
 rw[List.getD_eq_getElem?_getD,R i v h]; rfl
theorem Rp.ev{m:Fm}{s:AS}(R:Rp m s.fr){x:X}{v:V}(h:zA m x=some v):s.ev x=v.aG:=by
 cases x with
 |t n=>exact R.getD h
 |c t=>simp only[zA,Option.some.injEq] at h; subst h; exact(xA t).symm
theorem jG{v u:V}{s:Sd}(h:v.bare=(u,s))(hs:s.holds):v.aG=u.aG:=by
 unfold V.bare at h
 split at h
 ·cases h; simp only[Sd.holds] at hs; simp[V.aG,hs]
 ·cases h; rfl
theorem Sd.mZ{a b:Sd}:(a.and b).holds↔a.holds/\b.holds:=by cases a<;>cases b<;>simp[Sd.and,Sd.holds]
theorem Sd.IW{t b:Bool}{s:Sd}:(s.imp t b).holds↔(t=b->s.holds):=by cases s<;>simp[Sd.imp,Sd.holds]
theorem jJ{m:Fm}{s:AS}(R:Rp m s.fr){x:X}{f:V->xW}{r:V}{sd:Sd}(h:IV m x f=some (r,sd))(hs:sd.holds): ∃ u s',f u=some (r,s')/\s'.holds/\s.ev x=u.aG:=by
 unfold IV at h
 split at h
 ·rename_i v hv
  split at h
  rename_i u s0 hb
  split at h
  ·rename_i r' s' hf
   cases h
   rw[Sd.mZ] at hs
   exact⟨u,s',hf,hs.2,by rw[R.ev hv,jG hb hs.1]⟩
  ·cases h
 ·cases h
theorem xE{m:Fm}{s:AS}(R:Rp m s.fr){x y:X}{f:V->V->xW}{r:V}{sd:Sd}(h:YZ m x y f=some (r,sd))(hs:sd.holds): ∃ u v s',f u v=some (r,s')/\s'.holds/\s.ev x=u.aG/\s.ev y=v.aG:=by
 obtain⟨u,s',h1,h2,h3⟩:=jJ R h hs
 obtain⟨v,s'',h4,h5,h6⟩:=jJ R h1 h2
 exact⟨u,v,s'',h4,h5,h3,h6⟩
theorem aN{α:Type}{b:Bool}{x:Option α}{y:α}(h:dL b x=some y):b=true/\x=some y:=by
 cases b<;>simp[dL] at h; exact⟨rfl,h⟩
theorem abI{n:Int}(h1:0<=n)(h2:n<18446744073709551616):IntKind.u64.wrap n=n:=by
 have e:IntKind.u64.wrap n=(if(false&&decide (n % 18446744073709551616>=9223372036854775808))=true then n % 18446744073709551616-18446744073709551616 else n % 18446744073709551616):=rfl
 rw[e]
 simp only[Bool.false_and,Bool.false_eq_true,if_false]
 omega
theorem aam{n:Int}(h1:0<=n)(h2:n<256):IntKind.u8.wrap n=n:=by
 have e:IntKind.u8.wrap n=(if(false&&decide (n % 256>=128))=true then n % 256-256 else n % 256):=rfl
 rw[e]
 simp only[Bool.false_and,Bool.false_eq_true,if_false]
 omega
theorem Qs{n:Int}(h:okI n):IntKind.i64.wrap n=n:=wrap64 h.1 h.2
theorem Rw.fE(r:Rw):r.bQ.length=r.len:=by cases r<;>simp[Rw.bQ,Rw.len]
theorem Rw.J7(r:Rw):r.lenV= .int r.len:=by cases r<;>rfl
theorem Rw.BN{n:Int}{r:Rw}:r.rng n↔(0<=n/\n<r.len):=by cases r<;>simp[Rw.rng,Rw.len]<;>omega
theorem Rw.qP{n:Int}{r:Rw}:r.qV n↔(0<=n/\n<=r.len):=by cases r<;>simp[Rw.qV,Rw.len]<;>omega
theorem getD_map'{α:Type}{f:α->T}{l:List α}{i:Nat}{d:α}(h:i<l.length):(l.map f).getD i .any=f (l.getD i d):=by
 simp[List.getD_eq_getElem?_getD,h]
theorem Rw.J8{r:Rw}{i:Nat}(h:i<r.len):r.bQ.getD i .any=(r.get i).aG:=by
 cases r<;>simp only[Rw.len] at h<;>simp only[Rw.bQ,Rw.get,V.aG,Dat.aG,Rw.bQ]<;>first|exact getD_map' h|omega
theorem Rw.BO(r:Rw)(n:Nat):(r.take n).bQ=r.bQ.take n:=by cases r<;>simp[Rw.take,Rw.bQ]
theorem Rw.MQ(r:Rw)(n:Nat):(r.drop n).bQ=r.bQ.drop n:=by cases r<;>simp[Rw.drop,Rw.bQ]
theorem Rw.J9{a b c:Rw}(h:a.app b=some c):c.bQ=a.bQ++b.bQ:=by
 unfold Rw.app at h
 split at h<;>first|(cases h; done)|(cases h; simp[Rw.bQ])
theorem V.XT{v:V}{r:Rw}(h:v.one=some r):r.bQ=[v.aG]:=by
 unfold V.one at h
 split at h<;>first|(cases h; done)|(cases h; simp[Rw.bQ,V.aG,V.bQ,Dat.aG,uj,OU,EG])
theorem Rw.xB: ∀ {l:List V} {r:Rw},Rw.Ti l=some r->r.bQ=V.bQ l:=by
 intro l
 induction l with
 |nil=>intro r h; cases h; rfl
 |cons v l ih =>
  intro r h
  simp only[Rw.Ti] at h
  split at h
  ·rename_i a b h1 h2
   rw[Rw.J9 h,V.XT h1,ih h2]; rfl
  ·cases h
theorem V.Ko{v:V}{k:Nat}(h:v.kd=some k):v.aG.kd=k:=by
 cases v with
 |dat d=>cases h; exact Dat.aag d
 |_=>simp only[V.kd,Option.some.injEq,reduceCtorEq] at h<;>subst h<;>simp[V.aG,T.kd,eS,jd]
theorem V.Dt{v:V}{l:List V}(h:v.cells=some l):v.aG.cells=V.bQ l:=by
 cases v<;>simp only[V.cells,Option.some.injEq,reduceCtorEq] at h<;>subst h<;>simp[V.aG,Dat.Dq,T.cells,eS,V.bQ]
theorem Hz.wE{h:Hz}{i:Nat}:(h.aI i).isSome=(h.get i).isSome:=by simp[Hz.aI]
theorem V.wF{h:Hz}{v:V}(hv:v.iL h=true):v.aG.iL h.aI=true:=by
 cases v<;>simp only[V.iL,Bool.false_eq_true] at hv<;>simp[V.aG,T.iL,T.uf,eS,Value.oneCell',Hz.wE,hv]
 rename_i d
 cases d<;>rfl
theorem V.Vj{h:Hz}{v:V}(hv:v.iL h=true)(hk:v.kd=some 0):v.aG.uf h.aI=true:=by
 cases v<;>simp only[V.iL,Bool.false_eq_true] at hv<;>simp only[V.kd,Option.some.injEq,Nat.succ_ne_zero] at hk<;>simp[V.aG,T.uf,eS,Value.oneCell',Hz.wE,hv]
 rename_i d
 cases d<;>cases hk
theorem Dat.free(d:Dat):d.aG.free=true:=by cases d<;>rfl
mutual
theorem V.qJ:(v:V)->v.free=true->v.aG.free=true
 | .int _,_=>by simp[V.aG,T.free]
 | .bool _,_=>by simp[V.aG,T.free]
 | .u8 _,_=>by simp[V.aG,T.free]
 | .str _,_=>by simp[V.aG,T.free,eS]
 | .dat d,_=>by simp only[V.aG]; exact d.free
 | .agg l,h=>by simp only[V.aG,T.free]; simp only[V.free] at h; exact V.lT l h
 | .row _ _ _,_=>by simp[V.aG,T.free]
 | .Gj _ _ _,_=>by simp[V.aG,T.free]
 | .ref _ _,_=>by simp[V.aG,T.free]
 | .own _,h=>by simp[V.free] at h
 | .ptr _ _ _,h=>by simp[V.free] at h
 | .lF _ _ _,h=>by simp[V.free] at h
 | .fn _ l,h=>by simp only[V.aG,T.free]; simp only[V.free] at h; exact V.lT l h
 | .iF l,h=>by simp only[V.aG,T.free]; simp only[V.free] at h; exact V.lT l h
 | .cnd _ _,h=>by simp[V.free] at h
 | .raw t,h=>by simp only[V.aG]; simpa only[V.free] using h
theorem V.lT:(l:List V)->V.aT l=true->T.aT (V.bQ l)=true
 |[],_=>by simp[V.bQ,T.aT]
 |v::r,h=>by
  simp only[V.aT,Bool.and_eq_true] at h
  simp only[V.bQ,T.aT,Bool.and_eq_true]
  exact⟨V.qJ v h.1,V.lT r h.2⟩
end
theorem yF{l:List V}{i:Nat}{u:V}(h:l[i]? =some u):(V.bQ l).getD i .any=u.aG:=by
 rw[nS,List.getD_eq_getElem?_getD,List.getElem?_map,h]; rfl
theorem V.BP{off k:Nat}{v u:V}(h:v.part off k=some u):v.aG.part off k=u.aG:=by
 unfold V.part at h
 split at h
 ·simp only[V.aG,Dat.Dq,T.part,T.cells]; exact yF h
 ·simp only[V.aG,T.part,T.cells]; exact yF h
 ·rename_i k x
  cases hb:(Nat.beq off 2)&&(Nat.beq k 4) with
  |false=>rw[hb] at h; cases h
  |true =>
   rw[hb] at h
   simp only[Bool.and_eq_true,Nat.beq_eq] at hb
   obtain⟨rfl,rfl⟩:=hb
   cases h; rfl
 ·cases h
  simp only[V.aG,T.part,T.cells,Gm,Gn]
 ·cases h
theorem ku{a b:Nat}(h:Nat.beq a b=true):a=b:=Nat.eq_of_beq_eq_true h
section
variable {m:Fm} {h:Hz} {s:AS}
def Ok(s:AS)(op:kS)(v:V):Prop:=qc s op/\qt s op=v.aG
theorem XU{op:BinOp}{x y:X}{u v r:V}{sd:Sd}(q:aah op u v=some (r,sd))(hs:sd.holds)(h1:s.ev x=u.aG)(h2:s.ev y=v.aG):Ok s (.bin op x y) r:=by
 unfold Ok; simp only[qc,qt]; rw[h1,h2]
 unfold aah at q
 split at q
 ·rename_i a b
  split at q<;>first|(cases q; done)|(cases q; simp only[Sd.holds] at hs; simp[V.aG,wM,WZ,Qs,hs])
 ·split at q<;>first|(cases q; done)|(cases q; simp[V.aG,wM,WZ])
 ·split at q
  ·cases q; simp[V.aG,wM,eS,y5]
  ·cases q; simp[V.aG,wM,eS,y5]
  ·rename_i a b _
   cases q
   simp only[Sd.holds] at hs
   have hsz:(((bs a).size+(bs b).size:Nat):Int)<=9223372036854775807:=by
    have e1:(bs a).size=a.length:=by simp[bs,ByteArray.size]
    have e2:(bs b).size=b.length:=by simp[bs,ByteArray.size]
    rw[e1,e2]; exact Int.ofNat_le.2 hs
   have hap:bs a++bs b=bs (a++b):=by apply ByteArray.ext; simp[bs]
   have hsz2:((bs a).size:Int)+(bs b).size<=9223372036854775807:=by omega
   simp[V.aG,wM,eS,hsz2,hap]
  ·cases q
 ·split at q
  ·cases q
   simp only[Sd.holds] at hs
   refine⟨?_,?_⟩
   ·simp only[V.aG,wM,hs,decide_true,cond_true,Option.isSome]
   ·simp only[V.aG,wM,hs,decide_true,cond_true]; rfl
  ·cases q; simp[V.aG,wM,WZ]
  ·cases q; simp[V.aG,wM,WZ]
  ·cases q; simp[V.aG,wM,WZ]
  ·cases q
 ·cases q
theorem Pg{x:X}(hx:zh x=true):x= .c (.lit (.bool true)):=by
 unfold zh at hx
 split at hx
 ·rfl
 ·cases hx
theorem MR{x:X}(hx:wC x=true):x= .c (.lit (.bool false)):=by
 unfold wC at hx
 split at hx
 ·rfl
 ·cases hx
theorem Vk{c xa xb:X}{t:Bool}{va vb r:V}{sd:Sd}(R:Rp m s.fr)(ha:zA m xa=some va)(hb:zA m xb=some vb)(q:Ve t xa xb va.bare vb.bare=some (r,sd))(hs:sd.holds)(hc:s.ev c= .lit (.bool t)):Ok s (.pick c xa xb) r:=by
 unfold Ok; simp only[qc,qt]; rw[hc]
 refine⟨rfl,?_⟩
 unfold Ve at q
 split at q
 rename_i a sa b sb ea eb
 split at q
 ·rename_i v hp
  cases q
  rw[Sd.mZ,Sd.IW,Sd.IW] at hs
  have h1:t=true->s.ev xa=a.aG:=fun e=>by rw[R.ev ha,jG ea (hs.1 e)]
  have h2:t=false->s.ev xb=b.aG:=fun e=>by rw[R.ev hb,jG eb (hs.2 e)]
  unfold Y0 at hp
  split at hp
  ·rename_i x y
   have hp':r= .bool (bif zh xa then t||y else bif wC xb then t&&x else bif t then x else y):=by
    cases e1:zh xa<;>cases e2:wC xb<;>simp[e1,e2] at hp ⊢ <;>exact hp.symm
   subst hp'
   have key:vG (.lit (.bool t)) (s.ev xa) (s.ev xb)= .lit (.bool (bif t then x else y)):=by
    cases t with
    |true =>
     rw[h1 rfl]; simp only[V.aG,vG]
     split<;>simp_all
    |false =>
     rw[h2 rfl]; simp only[V.aG,vG]
     split<;>simp_all
   rw[key]
   simp only[V.aG]
   congr 2
   cases e1:zh xa with
   |true =>
    have:=Pg e1; subst this
    simp only[zA,Option.some.injEq] at ha; subst ha
    simp only[BM,V.bare,Prod.mk.injEq] at ea
    have:=ea.1; cases this
    cases t<;>rfl
   |false =>
    cases e2:wC xb with
    |true =>
     have:=MR e2; subst this
     simp only[zA,Option.some.injEq] at hb; subst hb
     simp only[BM,V.bare,Prod.mk.injEq] at eb
     have:=eb.1; cases this
     cases t<;>simp
    |false=>rfl
  ·cases hp
   cases t with
   |true=>rw[h1 rfl]; simp only[V.aG,vG,cond_true]
   |false=>rw[h2 rfl]; simp only[V.aG,vG,cond_false]; split<;>simp_all
  ·cases hp
   cases t with
   |true=>rw[h1 rfl]; simp only[V.aG,vG,cond_true,eS]
   |false=>rw[h2 rfl]; simp only[V.aG,vG,cond_false,eS]; split<;>simp_all
  ·cases hp
 ·cases q
theorem Ph{k:Nat}{p:Option V}{r:V}{sd:Sd}(q:V.O8 k p=some (r,sd)): ∃ u,p=some u/\r= .ref k u:=by
 unfold V.O8 at q
 split at q
 ·cases q; exact⟨_,rfl,rfl⟩
 ·cases q
theorem D9{p:Option V}{r:V}{sd:Sd}(q:V.EJ p=some (r,sd)):p=some r:=by
 unfold V.EJ at q
 split at q
 ·cases q; rfl
 ·cases q
theorem Vl{k:Nat}(h:(!(Nat.beq k 0))=true):(!(k==0))=true:=by
 cases k<;>simp_all
theorem aan(hh:s.hp=h.aI){off k:Nat}{x:X}{u r:V}{sd:Sd}(q:faZ h off k u=some (r,sd))(h1:s.ev x=u.aG):Ok s (.fa off k x) r:=by
 unfold Ok; simp only[qc,qt]; rw[h1]
 unfold faZ at q
 split at q
 ·obtain⟨g,q⟩:=aN q
  obtain⟨u,e,rfl⟩:=Ph q
  simp only[Bool.and_eq_true] at g
  simp only[V.aG,V.BP e,Bool.and_eq_true]
  exact⟨⟨Vl g.1,g.2⟩,trivial⟩
 ·obtain⟨g,q⟩:=aN q
  cases q
  simp only[V.aG,hh,Hz.wE,g,and_self]
 ·cases q
theorem aao{off k:Nat}{x:X}{u r:V}{sd:Sd}(q:fvZ off k u=some (r,sd))(h1:s.ev x=u.aG):Ok s (.fv off k x) r:=by
 unfold Ok; simp only[qc,qt]; rw[h1]
 unfold fvZ at q
 split at q
 ·rename_i kt hk
  obtain⟨g,q⟩:=aN q
  rw[V.Ko hk,V.BP (D9 q)]
  simp only[Bool.and_eq_true] at g ⊢
  exact⟨⟨Vl g.1,g.2⟩,trivial⟩
 ·cases q
theorem cu{i:Nat}{o:OV}(e:h.get i=some o):h.aI i=some o.bJ:=by simp[Hz.aI,e]
theorem XV: ∀ {l:List V} {i:Nat} {v:V},aai l i=some v->i<l.length/\(V.bQ l).getD i .any=v.aG:=by
 intro l
 induction l with
 |nil=>intro i v h; cases h
 |cons u r ih =>
  intro i v h
  cases i with
  |zero=>cases h; exact⟨Nat.succ_pos _,rfl⟩
  |succ i =>
   obtain⟨a,b⟩:=ih h
   exact⟨Nat.succ_lt_succ a,by simpa [V.bQ] using b⟩
theorem aap(hh:s.hp=h.aI){k:Nat}{x i:X}{u v r:V}{sd:Sd}(q:iaZ h k u v=some (r,sd))(hs:sd.holds)(h1:s.ev x=u.aG)(h2:s.ev i=v.aG):Ok s (.ia k x i) r:=by
 unfold Ok; simp only[qc,qt]; rw[h1,h2]
 unfold iaZ at q
 split at q
 ·rename_i k' f l n
  split at q
  ·rename_i v hv
   obtain⟨g,q⟩:=aN q
   cases q
   have:=ku g; subst this
   simp only[Sd.holds] at hs
   obtain⟨a,b⟩:=XV hv
   simp only[V.aG,TU,jd]
   exact⟨⟨trivial,hs,by omega⟩,by rw[b]⟩
  ·cases q
 ·rename_i k' f w n
  obtain⟨g,q⟩:=aN q
  cases q
  have:=ku g; subst this
  simp only[Sd.holds,Rw.BN] at hs
  simp only[V.aG,TU,Rw.fE]
  refine⟨⟨trivial,hs⟩,?_⟩
  rw[Rw.J8 (by omega)]
 ·rename_i o n
  split at q
  ·rename_i ty k' w e
   obtain⟨g,q⟩:=aN q
   cases q
   have:=ku g; subst this
   simp only[Sd.holds,Rw.BN] at hs
   simp only[V.aG,hh,cu e,OV.bJ,V.bQ,List.append_nil,TU,Rw.fE]
   exact⟨⟨trivial,hs⟩,trivial⟩
  ·cases q
 ·rename_i o lo hi n
  split at q
  ·rename_i ty k' w e
   obtain⟨g,q⟩:=aN q
   cases q
   have:=ku g; subst this
   simp only[Sd.holds] at hs
   simp only[V.aG,hh,cu e,OV.bJ,TU]
   exact⟨⟨trivial,hs⟩,trivial⟩
  ·cases q
 ·cases q
theorem aaq{x i:X}{u v r:V}{sd:Sd}(q:chZ u v=some (r,sd))(hs:sd.holds)(h1:s.ev x=u.aG)(h2:s.ev i=v.aG):Ok s (.ch x i) r:=by
 unfold Ok; simp only[qc,qt]; rw[h1,h2]
 unfold chZ at q
 split at q
 ·cases q
  simp only[Sd.holds] at hs
  simp only[V.aG,eS,TU,wY,UE]
  exact⟨hs,trivial⟩
 ·cases q
  simp only[Sd.holds] at hs
  simp only[V.aG,eS,TU,wY,UE]
  exact⟨hs,trivial⟩
 ·cases q
theorem Vm(hh:s.hp=h.aI){k:Nat}{x:X}{u r:V}{sd:Sd}(q:ldZ h k u=some (r,sd))(hs:sd.holds)(h1:s.ev x=u.aG):Ok s (.ld k x) r:=by
 unfold Ok; simp only[qc,qt]; rw[h1]
 unfold ldZ at q
 split at q
 ·obtain⟨g,q⟩:=aN q
  cases q
  simp only[Bool.and_eq_true] at g
  have:=ku g.1; subst this
  simp[V.aG,g.2]
 ·rename_i i j off
  split at q
  ·rename_i ty ko v e
   simp only[V.aG,hh,cu e,OV.bJ]
   unfold ldB at q
   cases hj:Nat.beq j 0 with
   |false=>rw[hj] at q; cases q
   |true =>
    have:=ku hj; subst this
    rw[hj] at q
    simp only[cond_true] at q
    cases hb:(Nat.beq off 0&&Nat.beq ko k) with
    |true =>
     rw[hb] at q; cases q
     simp only[Bool.and_eq_true] at hb
     have e1:=ku hb.1; have e2:=ku hb.2; subst e1; subst e2
     simp
    |false =>
     rw[hb] at q
     simp only[cond_false] at q
     obtain⟨g,q⟩:=aN q
     have hb':(off==0&&ko==k)=false:=by
      rw[Bool.and_eq_false_iff] at hb ⊢
      rcases hb with hb|hb
      ·left; simpa using Nat.ne_of_beq_eq_false hb
      ·right; simpa using Nat.ne_of_beq_eq_false hb
     simp only[hb',cond_false,Bool.false_or,List.getD_cons_zero,V.BP (D9 q),List.length_cons,List.length_nil]
     simp only[Bool.and_eq_true] at g ⊢
     exact⟨⟨by omega,Vl g.1,g.2⟩,trivial⟩
  ·rename_i ty ko w e
   simp only[V.aG,hh,cu e,OV.bJ,V.bQ,List.append_nil]
   unfold ldR at q
   cases hb:(Nat.beq off 0&&Nat.beq ko k) with
   |true =>
    rw[hb] at q; cases q
    simp only[Bool.and_eq_true] at hb
    have e1:=ku hb.1; have e2:=ku hb.2; subst e1; subst e2
    simp only[Sd.holds,Rw.BN] at hs
    have hlt:j<w.len:=by omega
    simp only[BEq.rfl,Bool.and_self,Bool.true_or,cond_true,Rw.fE,Rw.J8 hlt]
    exact⟨⟨hlt,trivial⟩,trivial⟩
   |false =>
    rw[hb] at q
    simp only[cond_false] at q
    split at q
    ·rename_i u hu
     obtain⟨g,q⟩:=aN q
     cases q
     have hb':(off==0&&ko==k)=false:=by
      rw[Bool.and_eq_false_iff] at hb ⊢
      rcases hb with hb|hb
      ·left; simpa using Nat.ne_of_beq_eq_false hb
      ·right; simpa using Nat.ne_of_beq_eq_false hb
     simp only[Sd.holds,Rw.BN] at hs
     have hlt:j<w.len:=by omega
     simp only[hb',cond_false,Bool.false_or,Rw.fE,Rw.J8 hlt,V.BP hu]
     simp only[Bool.and_eq_true] at g ⊢
     exact⟨⟨hlt,Vl g.1,g.2⟩,trivial⟩
    ·cases q
  ·cases q
 ·cases q
theorem aar(hh:s.hp=h.aI){x:X}{u r:V}{sd:Sd}(q:ncZ h u=some (r,sd))(h1:s.ev x=u.aG):Ok s (.nc x) r:=by
 unfold Ok; simp only[qc,qt]; rw[h1]
 unfold ncZ at q
 split at q
 ·cases q; simp[V.aG]
 ·obtain⟨g,q⟩:=aN q; cases q; simp[V.aG,hh,Hz.wE,g]
 ·cases q; simp[V.aG]
 ·cases q
theorem XW(hh:s.hp=h.aI){str:Bool}{x:X}{u r:V}{sd:Sd}(q:aaj h str u=some (r,sd))(h1:s.ev x=u.aG):Ok s (.len str x) r:=by
 unfold Ok; simp only[qc,qt]; rw[h1]
 unfold aaj at q
 split at q
 ·obtain⟨g,q⟩:=aN q; cases q
  simp only[Bool.not_eq_true'] at g
  simp[V.aG,Rw.J7,Rw.fE,g]
 ·obtain⟨g,q⟩:=aN q; cases q
  simp only[Bool.not_eq_true'] at g
  simp[V.aG,jd,g]
 ·obtain⟨g,q⟩:=aN q; cases q
  simp[V.aG,eS,wY,g]
 ·rename_i o
  split at q
  ·rename_i ty k w y e
   obtain⟨g,q⟩:=aN q
   simp only[Bool.and_eq_true,Bool.not_eq_true'] at g
   have hk:k≠dK:=Nat.ne_of_beq_eq_false g.2
   split at q
   ·cases q
    simp only[V.aG,hh,cu e,OV.bJ,V.bQ,List.append_nil,Rw.J7,Rw.fE]
    exact⟨⟨g.1,hk⟩,trivial⟩
   ·cases q
    simp only[V.aG,hh,cu e,OV.bJ,List.length_append,jd,Rw.fE]
    exact⟨⟨g.1,hk⟩,by simp⟩
  ·cases q
 ·rename_i o lo hi
  obtain⟨g,q⟩:=aN q; cases q
  simp only[Bool.and_eq_true,Bool.not_eq_true'] at g
  simp[V.aG,hh,Hz.wE,g]
 ·cases q
theorem aas{x y:X}{u v r:V}{sd:Sd}(q:mxZ u v=some (r,sd))(h1:s.ev x=u.aG)(h2:s.ev y=v.aG):Ok s (.mx x y) r:=by
 unfold Ok; simp only[qc,qt]; rw[h1,h2]
 unfold mxZ at q
 split at q
 ·rename_i a b
  cases q; simp only[V.aG,true_and]; congr 2; split<;>omega
 ·cases q
theorem aat{x y:X}{u v r:V}{sd:Sd}(q:mnZ u v=some (r,sd))(h1:s.ev x=u.aG)(h2:s.ev y=v.aG):Ok s (.mn x y) r:=by
 unfold Ok; simp only[qc,qt]; rw[h1,h2]
 unfold mnZ at q
 split at q
 ·rename_i a b
  cases q; simp only[V.aG,true_and]; congr 2; split<;>omega
 ·cases q
theorem aau{i:Nat}{x:X}{u r:V}{sd:Sd}(q:exZ i u=some (r,sd))(h1:s.ev x=u.aG):Ok s (.ex x i) r:=by
 unfold Ok; simp only[qc,qt]; rw[h1]
 unfold exZ at q
 split at q
 ·split at q
  ·rename_i l _ v e
   cases q
   have hi:i<l.length:=(List.getElem?_eq_some_iff.1 e).1
   simp only[V.aG,Nat.blt_eq,jd,yF e]
   exact⟨hi,trivial⟩
  ·cases q
 ·cases q
theorem XY{ne:Bool}{n:Nat}{x y:X}{u v r:V}{sd:Sd}(q:aak ne n u v=some (r,sd))(h1:s.ev x=u.aG)(h2:s.ev y=v.aG):Ok s (.eqs ne n x y) r:=by
 unfold Ok; simp only[qc,qt]; rw[h1,h2]
 unfold aak at q
 split at q
 ·rename_i x y
  obtain⟨g,q⟩:=aN q; cases q
  have:=ku g; subst this
  have e:oD [.int x.c,.int x.n,.int x.t,.int x.f] [.int y.c,.int y.n,.int y.t,.int y.f]=(x==y):=by
   cases x; cases y; simp[oD,BEq.beq]
  simp only[V.aG,Dat.aG,OT,e]
  exact⟨rfl,trivial⟩
 ·rename_i x y
  obtain⟨g,q⟩:=aN q; cases q
  have:=ku g; subst this
  have e:oD [.int x.message,.int x.BF,.int x.bound.c,.int x.bound.n,.int x.bound.t,.int x.bound.f] [.int y.message,.int y.BF,.int y.bound.c,.int y.bound.n,.int y.bound.t,.int y.bound.f]=(x==y):=by
   obtain⟨a,b,c,d,e,f⟩:=x; obtain⟨a',b',c',d',e',f'⟩:=y; simp[oD,BEq.beq]
  simp only[V.aG,Dat.aG,MG,e]
  exact⟨rfl,trivial⟩
 ·cases q
theorem aav{n:Nat}{x:X}{u r:V}{sd:Sd}(q:saZ n u=some (r,sd))(h1:s.ev x=u.aG):Ok s (.sa n x) r:=by
 unfold Ok; simp only[qc,qt]; rw[h1]
 unfold saZ at q
 split at q
 ·rename_i k l
  split at q
  ·rename_i w hw
   obtain⟨g,q⟩:=aN q; cases q
   simp only[V.aG,jd]
   exact⟨g,by rw[Rw.xB hw]⟩
  ·cases q
 ·cases q
theorem XZ{x:X}{u r:V}{sd:Sd}(q:aal u=some (r,sd))(h1:s.ev x=u.aG):Ok s (.E5 x) r:=by
 unfold Ok; simp only[qc,qt]; rw[h1]
 unfold aal at q
 split at q
 ·cases q; simp[V.aG,Rw.J7,Rw.fE]
 ·cases q
end
section
variable {m:Fm} {h:Hz} {s:AS}
theorem qQ(R:Rp m s.fr): ∀ {xs:List X} {l:List V} {sd:Sd},yE m xs=some (l,sd)->sd.holds->xs.map s.ev=V.bQ l:=by
 intro xs
 induction xs with
 |nil=>intro l sd q _; cases q; rfl
 |cons x r ih =>
  intro l sd q hs
  simp only[yE] at q
  split at q
  ·rename_i v l' s' h1 h2
   cases q
   rw[Sd.mZ] at hs
   simp only[List.map_cons,V.bQ]
   rw[R.ev h1,jG (v:=v) (u:=v.bare.1) (s:=v.bare.2) rfl hs.1,ih h2 hs.2]
  ·cases q
theorem Du: ∀ {l:List V},zO h l=true->oN h.aI (V.bQ l)=true:=by
 intro l
 induction l with
 |nil=>intro _; rfl
 |cons v r ih =>
  intro q
  simp only[zO,Bool.and_eq_true] at q
  simp only[V.bQ,oN,Bool.and_eq_true]
  exact⟨V.wF q.1,ih q.2⟩
theorem EK{k:Nat}: ∀ {l:List V},H8 k l=true-> ∀ v∈l,v.kd=some k:=by
 intro l
 induction l with
 |nil=>intro _ v hv; cases hv
 |cons u r ih =>
  intro q v hv
  simp only[H8,Bool.and_eq_true] at q
  rcases List.mem_cons.1 hv with rfl|hv
  ·have:=q.1
   split at this
   ·rename_i k' e; rw[e,ku this]
   ·cases this
  ·exact ih q.2 v hv
theorem RU: ∀ {l:List V},zO h l=true->H8 0 l=true->uN h.aI (V.bQ l)=true:=by
 intro l
 induction l with
 |nil=>intro _ _; rfl
 |cons v r ih =>
  intro q k
  have hk:=EK k v (by simp)
  simp only[zO,H8,Bool.and_eq_true] at q k
  simp only[V.bQ,uN,Bool.and_eq_true]
  exact⟨V.Vj q.1 hk,ih q.2 k.2⟩
theorem Vo: ∀ {ps:List (Nat×Nat×X)} {vs z l:List V},Qr ps vs z=some l->(ps.map fun p=>s.ev p.2.2)=V.bQ vs ->
  zY (V.bQ z) (ps.map fun p=>(p.1,p.2.1,s.ev p.2.2))=true/\AZ (V.bQ z) (ps.map fun p=>(p.1,p.2.1,s.ev p.2.2))=V.bQ l:=by
 intro ps
 induction ps with
 |nil =>
  intro vs z l q he
  cases vs with
  |nil=>cases q; exact⟨rfl,rfl⟩
  |cons v vs=>simp[V.bQ] at he
 |cons p ps ih =>
  intro vs z l q he
  obtain⟨off,n,x⟩:=p
  cases vs with
  |nil=>simp[V.bQ] at he
  |cons v vs =>
   simp only[Qr] at q
   split at q
   ·rename_i c hc
    obtain⟨g,q⟩:=aN q
    simp only[List.map_cons,V.bQ,List.cons.injEq] at he
    simp only[Bool.and_eq_true] at g
    have e1:=ku g.1
    obtain⟨i1,i2⟩:=ih q he.2
    simp only[List.map_cons,zY,AZ,Bool.and_eq_true]
    have ec:(s.ev x).cells=V.bQ c:=by rw[he.1]; exact V.Dt hc
    simp only[xC,Gm,Gn] at i1 i2
    simp only[ec,jd]
    refine⟨⟨⟨by simpa using e1,g.2⟩,i1⟩,i2⟩
   ·cases q
theorem aaw(R:Rp m s.fr)(hh:s.hp=h.aI){z:List T}{ps:List (Nat×Nat×X)}{r:V}{sd:Sd}(q:mkZ m h z ps=some (r,sd))(hs:sd.holds):Ok s (.mk z ps) r:=by
 unfold mkZ at q
 split at q
 ·rename_i vs s' hb
  split at q
  ·rename_i l hl
   obtain⟨g,q⟩:=aN q
   cases q
   have he:=qQ R hb hs
   have he':(ps.map fun p=>s.ev p.2.2)=V.bQ vs:=by rw[<- he]; simp
   obtain⟨i1,i2⟩:=Vo hl he'
   rw[xB] at i1 i2
   unfold Ok; simp only[qc,qt]
   rw[i1,i2,he',hh,Du g]
   exact⟨rfl,rfl⟩
  ·cases q
 ·cases q
theorem Qu{k n:Nat}: ∀ {ps:List (Nat×X)} {vs z l:List V},Vf n ps vs z=some l->(ps.map fun p=>s.ev p.2)=V.bQ vs->H8 k vs=true ->
  zC k n (ps.map fun p=>(p.1,s.ev p.2))=true/\nI (V.bQ z) (ps.map fun p=>(p.1,s.ev p.2))=V.bQ l:=by
 intro ps
 induction ps with
 |nil =>
  intro vs z l q he _
  cases vs with
  |nil=>cases q; exact⟨rfl,rfl⟩
  |cons v vs=>simp[V.bQ] at he
 |cons p ps ih =>
  intro vs z l q he hk
  obtain⟨i,x⟩:=p
  cases vs with
  |nil=>simp[V.bQ] at he
  |cons v vs =>
   simp only[Vf] at q
   obtain⟨g,q⟩:=aN q
   simp only[List.map_cons,V.bQ,List.cons.injEq] at he
   have hkv:=EK hk v (by simp)
   simp only[H8,Bool.and_eq_true] at hk
   obtain⟨i1,i2⟩:=ih q he.2 hk.2
   have e:V.bQ (z.set i v)=(V.bQ z).set i (s.ev x):=by rw[he.1]; simp[nS,List.map_set]
   rw[e] at i2
   simp only[List.map_cons,zC,nI,Bool.and_eq_true]
   refine⟨⟨⟨?_,g⟩,i1⟩,i2⟩
   rw[he.1,V.Ko hkv]; simp
theorem aax(R:Rp m s.fr)(hh:s.hp=h.aI){ty k:Nat}{z:T}{n:Nat}{ps:List (Nat×X)}{r:V}{sd:Sd}(q:msZ m h k z n ps=some (r,sd))(hs:sd.holds):Ok s (.ms ty k z n ps) r:=by
 unfold msZ at q
 split at q
 ·rename_i vs s' hb
  split at q
  ·rename_i l hl
   obtain⟨g,q⟩:=aN q
   have hs':s'.holds/\r.aG= .sl k true (V.bQ l):=by
    split at q
    ·rename_i w hw
     cases q; exact⟨hs,by simp only[V.aG]; rw[Rw.xB hw]⟩
    ·cases q; exact⟨hs,rfl⟩
   have he:=qQ R hb hs'.1
   have he':(ps.map fun p=>s.ev p.2)=V.bQ vs:=by rw[<- he]; simp
   simp only[Bool.and_eq_true] at g
   obtain⟨⟨⟨⟨⟨⟨g1,g2⟩,g3⟩,g4⟩,g5⟩,g6⟩,g7⟩:=g
   obtain⟨i1,i2⟩:=Qu hl he' g3
   have e:V.bQ (List.replicate n (BM z))=List.replicate n z:=by rw[nS,List.map_replicate,xA]
   rw[e] at i2
   unfold Ok; simp only[qc,qt]
   rw[i1,i2,he',hh,Du g4,V.lT _ g5,g1,g2,g6,g7,hs'.2]
   exact⟨rfl,rfl⟩
  ·cases q
 ·cases q
theorem yG(R:Rp m s.fr){x:Option X}{v:Option V}{sd:Sd}(q:Gl m x=some (v,sd))(hs:sd.holds):x.map s.ev=v.map V.aG:=by
 cases x with
 |none=>cases q; rfl
 |some x =>
  simp only[Gl] at q
  split at q
  ·rename_i u hu
   cases q
   simp only[Option.map_some]; rw[R.ev hu,jG (v:=u) (u:=u.bare.1) (s:=u.bare.2) rfl hs]
  ·cases q
theorem Dv{k k':Nat}{r:Rw}(g:Y1 k k' r=true):k'=k\/r.bQ=[]:=by
 unfold Y1 at g
 split at g
 ·exact .inr rfl
 ·exact .inl (ku g)
theorem MS{k k':Nat}{f:Bool}{w:Rw}{lo hi mx:Option V}{r:V}{sd:Sd}(q:Vg k k' f w lo hi mx=some (r,sd))(hs:sd.holds) :
  TV k (.sl k' f w.bQ) (lo.map V.aG) (hi.map V.aG) (mx.map V.aG)/\Ju k (.sl k' f w.bQ) (lo.map V.aG) (hi.map V.aG) (mx.map V.aG)=r.aG:=by
 unfold Vg at q
 split at q
 ·obtain⟨g,q⟩:=aN q; cases q
  simp only[Option.map_none,TV,Ju,V.aG]
  exact⟨Dv g,trivial⟩
 ·obtain⟨g,q⟩:=aN q; cases q
  simp only[Sd.holds,Rw.qP] at hs
  simp only[Option.map_none,Option.map_some,TV,Ju,V.aG,Rw.MQ,Rw.fE]
  exact⟨⟨Dv g,hs⟩,trivial⟩
 ·obtain⟨g,q⟩:=aN q; cases q
  simp only[Sd.holds,Rw.qP] at hs
  simp only[Option.map_none,Option.map_some,TV,Ju,V.aG,Rw.BO,Rw.fE]
  exact⟨⟨Dv g,hs⟩,trivial⟩
 ·obtain⟨g,q⟩:=aN q; cases q
  simp only[Sd.holds,Rw.qP] at hs
  simp only[Option.map_none,Option.map_some,TV,Ju,V.aG,Rw.BO,Rw.MQ,Rw.fE]
  exact⟨⟨Dv g,hs.1,hs.2.1,hs.2.2.2⟩,trivial⟩
 ·obtain⟨g,q⟩:=aN q; cases q
  simp only[Sd.holds,Rw.qP] at hs
  simp only[Option.map_none,Option.map_some,TV,Ju,V.aG,Rw.BO,Rw.fE]
  exact⟨⟨Dv g,hs.1,hs.2.1,hs.2.2.2⟩,trivial⟩
 ·cases q
theorem Vp{k i ty ko:Nat}{w:Rw}{lo hi mx:Option V}{r:V}{sd:Sd}(q:Vh k i ko w lo hi mx=some (r,sd))(hs:sd.holds) :
  zD k ⟨ty,ko,w.bQ⟩ (lo.map V.aG) (hi.map V.aG) (mx.map V.aG)/\vH i ⟨ty,ko,w.bQ⟩ (lo.map V.aG) (hi.map V.aG) (mx.map V.aG)=r.aG:=by
 unfold Vh at q
 split at q
 ·obtain⟨g,q⟩:=aN q; cases q
  simp only[Sd.holds,Rw.qP] at hs
  simp only[Option.map_none,Option.map_some,zD,vH,V.aG,Rw.fE]
  exact⟨⟨ku g,hs⟩,trivial⟩
 ·obtain⟨g,q⟩:=aN q; cases q
  simp only[Sd.holds,Rw.qP] at hs
  simp only[Option.map_none,Option.map_some,zD,vH,V.aG,Rw.fE]
  exact⟨⟨ku g,hs⟩,trivial⟩
 ·obtain⟨g,q⟩:=aN q; cases q
  simp only[Sd.holds,Rw.qP] at hs
  simp only[Option.map_none,Option.map_some,zD,vH,V.aG,Rw.fE]
  exact⟨⟨ku g,hs.1,hs.2.1,hs.2.2.2⟩,trivial⟩
 ·cases q
theorem RX{k i ty ko:Nat}{w:Rw}{xs:List V}{lo hi mx:Option V}{r:V}{sd:Sd}(q:O9 k i ko w xs lo hi mx=some (r,sd))(hs:sd.holds) :
  zD k ⟨ty,ko,w.bQ++V.bQ xs⟩ (lo.map V.aG) (hi.map V.aG) (mx.map V.aG)/\vH i ⟨ty,ko,w.bQ++V.bQ xs⟩ (lo.map V.aG) (hi.map V.aG) (mx.map V.aG)=r.aG:=by
 unfold O9 at q
 split at q
 ·obtain⟨g,q⟩:=aN q; cases q
  simp only[Sd.holds,Rw.qP] at hs
  simp only[Option.map_none,Option.map_some,zD,vH,V.aG]
  refine⟨⟨ku g,hs.1,?_⟩,trivial⟩
  have:=hs.2
  simp only[List.length_append,Rw.fE]; omega
 ·split at q
  ·simp only[V.bQ,List.append_nil]; exact Vp q hs
  ·cases q
theorem Qv(R:Rp m s.fr){b:Bool}{k:Nat}{x:X}{lo hi mx:Option X}{r:V}{sd:Sd}(q:slX m h b k x lo hi mx=some (r,sd))(hs:sd.holds) :
  ∃ v lo' hi' mx' s',slZ h b k v lo' hi' mx'=some (r,s')/\s'.holds/\s.ev x=v.aG/\lo.map s.ev=lo'.map V.aG/\hi.map s.ev=hi'.map V.aG/\mx.map s.ev=mx'.map V.aG:=by
 obtain⟨v,s',q,hs,hv⟩:=jJ R q hs
 split at q
 ·rename_i lo' s1 hi' s2 mx' s3 e1 e2 e3
  split at q
  ·rename_i u s4 e4
   cases q
   rw[Sd.mZ,Sd.mZ,Sd.mZ] at hs
   exact⟨v,lo',hi',mx',s4,e4,hs.2.2.2,hv,yG R e1 hs.1,yG R e2 hs.2.1,yG R e3 hs.2.2.1⟩
  ·cases q
 ·cases q
theorem abJ(R:Rp m s.fr){k:Nat}{x:X}{lo hi mx:Option X}{r:V}{sd:Sd}(q:slX m h false k x lo hi mx=some (r,sd))(hs:sd.holds):Ok s (.sl k x lo hi mx) r:=by
 obtain⟨v,lo',hi',mx',s',q,hs,hv,e1,e2,e3⟩:=Qv R q hs
 unfold Ok; simp only[qc,qt]; rw[hv,e1,e2,e3]
 unfold slZ at q
 split at q
 ·exact MS q hs
 ·cases q
 ·cases q
theorem aay(R:Rp m s.fr)(hh:s.hp=h.aI){k:Nat}{x:X}{lo hi mx:Option X}{r:V}{sd:Sd}(q:slX m h true k x lo hi mx=some (r,sd))(hs:sd.holds):Ok s (.NR k x lo hi mx) r:=by
 obtain⟨v,lo',hi',mx',s',q,hs,hv,e1,e2,e3⟩:=Qv R q hs
 unfold Ok; simp only[qc,qt]; rw[hv,e1,e2,e3]
 unfold slZ at q
 split at q
 ·exact MS q hs
 ·simp only[cond_true] at q
  split at q
  ·rename_i i _ ty ko w xs e
   simp only[V.aG,hh,cu e,OV.bJ]
   exact RX q hs
  ·cases q
 ·cases q
theorem Am{t:Str}{a b:Nat}(hab:a<=b)(_hb:b<=t.length):(bs t).extract a b=bs ((t.take b).drop a):=by
 apply ByteArray.ext
 have h1:((bs t).extract a b).data=(bs t).data.extract a b:=ByteArray.data_extract
 rw[h1]
 apply Array.ext'
 simp[bs,List.extract,List.take_drop]
 rw[show a+(b-a)=b by omega]
theorem abK(R:Rp m s.fr){x:X}{lo hi:Option X}{r:V}{sd:Sd}(q:ssX m x lo hi=some (r,sd))(hs:sd.holds):Ok s (.ss x lo hi) r:=by
 obtain⟨v,s',q,hs,hv⟩:=jJ R q hs
 split at q
 ·rename_i t lo' s1 hi' s2 e1 e2
  split at q
  ·rename_i u s4 e4
   cases q
   rw[Sd.mZ,Sd.mZ] at hs
   have f1:=yG R e1 hs.1
   have f2:=yG R e2 hs.2.1
   unfold Ok; simp only[qc,qt]; rw[hv,f1,f2]
   have hs4:=hs.2.2
   unfold ssZ at e4
   split at e4
   ·cases e4
    simp only[Sd.holds] at hs4
    simp only[Option.map_none,Option.map_some,V.aG,eS,wY]
    refine⟨hs4,?_⟩
    rw[Am (by omega) (Nat.le_refl _)]; simp
   ·cases e4
    simp only[Sd.holds] at hs4
    simp only[Option.map_none,Option.map_some,V.aG,eS,wY]
    refine⟨hs4,?_⟩
    rw[Am (by omega) (by omega)]; simp
   ·cases e4
    simp only[Sd.holds] at hs4
    simp only[Option.map_some,V.aG,eS,wY]
    refine⟨hs4,?_⟩
    rw[Am (by omega) (by omega)]
   ·cases e4
  ·cases q
 ·cases q
theorem aaz(R:Rp m s.fr)(hh:s.hp=h.aI){f:FuncId}{cap:List X}{r:V}{sd:Sd}(q:mfZ m h f cap=some (r,sd))(hs:sd.holds):Ok s (.mf f cap) r:=by
 unfold mfZ at q
 split at q
 ·rename_i l s' hb
  obtain⟨g,q⟩:=aN q
  cases q
  simp only[Bool.and_eq_true] at g
  unfold Ok; simp only[qc,qt]
  rw[qQ R hb hs,hh,RU g.1.1 g.1.2,g.2]
  exact⟨rfl,rfl⟩
 ·cases q
theorem aaA{f:FuncId}{x:X}{v r:V}{sd:Sd}(q:mbZ f v=some (r,sd))(h1:s.ev x=v.aG):Ok s (.mb f x) r:=by
 unfold mbZ at q
 split at q
 ·obtain⟨g,q⟩:=aN q; cases q
  unfold Ok; simp only[qc,qt]; rw[h1]; exact⟨Nat.blt_eq.mp g,rfl⟩
 ·obtain⟨g,q⟩:=aN q; cases q
  rename_i d
  unfold Ok; simp only[qc,qt]; rw[h1]; simp only[V.aG]; rw[Dat.Dq]; exact⟨Nat.blt_eq.mp g,rfl⟩
 ·cases q
theorem Vq(R:Rp m s.fr)(hh:s.hp=h.aI){op:kS}{r:V}{sd:Sd}(q:qz m h op=some (r,sd))(hs:sd.holds):bC op=true/\Ok s op r:=by
 unfold qz at q
 split at q
 ·split at q
  ·rename_i v e; cases q
   exact⟨rfl,trivial,R.ev e⟩
  ·cases q
 ·obtain⟨c,s',q,hs,hc⟩:=jJ R q hs
  split at q
  ·rename_i t va vb e1 e2
   exact⟨rfl,Vk R e1 e2 q hs hc⟩
  ·cases q
 ·obtain⟨u,v,s',q,hs,h1,h2⟩:=xE R q hs
  exact⟨rfl,XU q hs h1 h2⟩
 ·obtain⟨u,v,s',q,hs,h1,h2⟩:=xE R q hs
  split at q
  ·cases q; refine⟨rfl,?_⟩; unfold Ok; simp only[qc,qt]; rw[h1,h2]; exact⟨rfl,rfl⟩
  ·cases q
 ·obtain⟨u,s',q,hs,h1⟩:=jJ R q hs
  split at q
  ·cases q; refine⟨rfl,?_⟩; unfold Ok; simp only[qc,qt]; rw[h1]; exact⟨rfl,rfl⟩
  ·cases q
 ·obtain⟨u,s',q,hs,h1⟩:=jJ R q hs
  split at q
  ·cases q; refine⟨rfl,?_⟩; unfold Ok; simp only[qc,qt]; rw[h1]; simp only[V.aG,true_and]; rw[Qs hs]
  ·cases q; refine⟨rfl,?_⟩; unfold Ok; simp only[qc,qt]; rw[h1]; simp only[V.aG,true_and]; rw[Qs hs]
  ·cases q; refine⟨rfl,?_⟩; unfold Ok; simp only[qc,qt]; rw[h1]; simp only[V.aG,true_and]; rw[Qs hs]
  ·cases q
 ·obtain⟨u,s',q,hs,h1⟩:=jJ R q hs
  split at q
  ·cases q; refine⟨rfl,?_⟩; unfold Ok; simp only[qc,qt]; rw[h1]; simp only[V.aG,true_and]; rw[abI hs.1 hs.2]
  ·cases q
 ·obtain⟨u,s',q,hs,h1⟩:=jJ R q hs
  split at q
  ·cases q; refine⟨rfl,?_⟩; unfold Ok; simp only[qc,qt]; rw[h1]; simp only[V.aG,true_and]; rw[aam hs.1 hs.2]
  ·cases q
 ·obtain⟨u,s',q,hs,h1⟩:=jJ R q hs; exact⟨rfl,aan hh q h1⟩
 ·obtain⟨u,s',q,hs,h1⟩:=jJ R q hs; exact⟨rfl,aao q h1⟩
 ·obtain⟨u,v,s',q,hs,h1,h2⟩:=xE R q hs; exact⟨rfl,aap hh q hs h1 h2⟩
 ·obtain⟨u,v,s',q,hs,h1,h2⟩:=xE R q hs; exact⟨rfl,aaq q hs h1 h2⟩
 ·obtain⟨u,s',q,hs,h1⟩:=jJ R q hs; exact⟨rfl,Vm hh q hs h1⟩
 ·obtain⟨u,s',q,hs,h1⟩:=jJ R q hs; exact⟨rfl,aar hh q h1⟩
 ·obtain⟨u,s',q,hs,h1⟩:=jJ R q hs; exact⟨rfl,XW hh q h1⟩
 ·obtain⟨u,v,s',q,hs,h1,h2⟩:=xE R q hs; exact⟨rfl,aas q h1 h2⟩
 ·obtain⟨u,v,s',q,hs,h1,h2⟩:=xE R q hs; exact⟨rfl,aat q h1 h2⟩
 ·exact⟨rfl,aaw R hh q hs⟩
 ·exact⟨rfl,aax R hh q hs⟩
 ·exact⟨rfl,abJ R q hs⟩
 ·exact⟨rfl,aay R hh q hs⟩
 ·exact⟨rfl,abK R q hs⟩
 ·obtain⟨u,s',q,hs,h1⟩:=jJ R q hs; exact⟨rfl,aau q h1⟩
 ·exact⟨rfl,aaz R hh q hs⟩
 ·obtain⟨u,v,s',q,hs,h1,h2⟩:=xE R q hs; exact⟨rfl,XY q h1 h2⟩
 ·obtain⟨u,s',q,hs,h1⟩:=jJ R q hs; exact⟨rfl,XZ q h1⟩
 ·obtain⟨u,s',q,hs,h1⟩:=jJ R q hs; exact⟨rfl,aaA q h1⟩
 ·obtain⟨u,s',q,hs,h1⟩:=jJ R q hs; exact⟨rfl,aav q h1⟩
 ·cases q
end
structure ah(P:Program)(dr:Bool)(g:Option Bool)(f:FuncId)(args:List V)(h:Hz)(n:Nat)(K:V->Hz->Prop)(KW:Nat->V->Hz->Prop):Prop where
 ok:(match g with
  |none=>bF P f (V.bQ args) h.aI n fun t hp=> ∃ v h',t=v.aG/\hp=h'.aI/\(dr=true->h'=h/\t.free=true)/\K v h'
  |some b=>(∃ v,(b=true->bF P f (V.bQ args) h.aI n fun t hp=>t=v.aG/\hp=h.aI)/\v.free=true/\K v h) \/
   (dr=false/\(b=true->bF P f (V.bQ args) h.aI n fun t hp=> ∃ v h',t=v.aG/\hp=h'.aI/\K v h')/\(b=false->K (.int 0) h))) \/
  (g=none/\dr=false/\ ∃ k,wR P f (V.bQ args) h.aI n k fun t hp=> ∃ v h',t=v.aG/\hp=h'.aI/\KW k v h') \/
  (g=none/\dr=true/\h.get n=none/\bF P f (V.bQ args) h.aI n fun t hp=> ∃ v o,t=v.aG/\hp=Hz.aI ((n,some o)::h)/\KW 0 v ((n,some o)::h))
structure PY(P:Program)(f:FuncId)(args:List V)(h:Hz)(n:Nat)(K:V->Hz->Prop):Prop where
 ok: ∃ (v:V) (o:Option OV),v.aG.ids (fun i=>i=n)/\(∀ ob,o=some ob->T.aT ob.bJ.l=true) /\
  (∀ hp:Hp,(∀ i ob,h.aI i=some ob->hp i=some ob)->bF P f (V.bQ args) hp n fun t' h'=>t'=v.aG/\h'=gI hp n (o.map OV.bJ)) /\
  K v (match o with|none=>h|some o=>(n,some o)::h)
def Ap(dr fl:Bool)(a b c:Prop):Prop :=
 match dr with
 |false=>a
 |true=>match fl with
  |false=>b
  |true=>c
inductive aaB(p a b:Prop):Prop where
 |mk:(p->a)->b->aaB p a b
inductive abL(o:Option (List Bool))(yes:List Bool->Prop)(no:Prop):Prop where
 |mk:(∀ l,o=some l->yes l)->(o=none->no)->abL o yes no
def V.seq(v:V)(K:V->Prop):Prop :=
 match v with
 | .int n=>K (.int n)
 | .bool b=>K (.bool b)
 | .u8 n=>K (.u8 n)
 | .str s=>K (.str s)
 | .dat d=>K (.dat d)
 | .agg l=>K (.agg l)
 | .row k f r=>K (.row k f r)
 | .Gj k f l=>K (.Gj k f l)
 | .ref k v=>K (.ref k v)
 | .own i=>K (.own i)
 | .ptr i j o=>K (.ptr i j o)
 | .lF i a b=>K (.lF i a b)
 | .fn f l=>K (.fn f l)
 | .iF l=>K (.iF l)
 | .cnd b v=>K (.cnd b v)
 | .raw t=>K (.raw t)
theorem V.seq_eq(v:V)(K:V->Prop):v.seq K=K v:=by cases v<;>rfl
def jh(d:Option Nat)(v:V)(m:Fm):Fm :=
 match d with
 |some d=>(d,v)::m
 |none=>m
def pX:Option Bool->V->V
 |none,v=>v
 |some b,.cnd c v=>.cnd (b&&c) v
 |some b,v=>.cnd b v
theorem Dw(v:V):(pX (some true) v).aG=v.aG:=by cases v<;>rfl
theorem Pj(v:V):(pX (some false) v).aG=T.un:=by cases v<;>rfl
def Pm(m:Fm):Option (Nat×Bool)->Option (Option Bool)
 |none=>some none
 |some (g,w)=>match m.get g with
  |some (.bool b)=>some (some (bif w then b else !b))
  |some (.cnd c (.bool b))=>some (some (c&&(bif w then b else !b)))
  |_=>none
def ltX(nx:Nat)(m:Fm):List X->Bool
 |[]=>true
 |x::r=>(match zA m x with|some v=>T.lt nx v.aG|none=>false)&&ltX nx m r
def Vr(nx:Nat)(m:Fm):kS->Bool
 | .st _ x _=>match zA m x with|some v=>T.newer nx v.aG|none=>false
 | .app _ _ _ x _=>match zA m x with|some v=>T.newer nx v.aG|none=>false
 | .Jt _ _ _=>false
 | .KU _ _ _=>false
 | .call _ _=>true
 | .jQ _ _=>true
 |op=>ltX nx m op.xs
def X0(i:Nat)(m:Fm):List X->Bool
 |[]=>true
 |x::r=>(match zA m x with|some v=>T.YG i v.aG|none=>false)&&X0 i m r
def neB(m:Fm)(xs:List X):List Nat->Bool
 |[]=>true
 |d::r=>(match m.get d with|some (.ptr i _ _)=>X0 i m xs|_=>false)&&neB m xs r
def Ea(nx:Nat)(o:ay)(m:Fm):Bool:=(!o.fl||Vr nx m o.op)&&neB m o.op.xs o.ne
def isZero:V->Bool
 | .int (.ofNat 0)=>true
 |_=>false
def WU(n:Nat):T->Option Rw
 | .lit (.int .i64 z)=>some (.ints (List.replicate n z))
 | .lit (.bool z)=>some (.bools (List.replicate n z))
 | .lit (.string z)=>some (.strs (List.replicate n z.data.toList))
 |_=>none
def Rw.set(j:Nat)(v:V)(r:Rw):Option Rw :=
 match r,v with
 | .ints l,.int n=>some (.ints (l.set j n))
 | .bools l,.bool n=>some (.bools (l.set j n))
 | .strs l,.str n=>some (.strs (l.set j n))
 | .rules l,.dat (.rule n)=>some (.rules (l.set j n))
 | .clauses l,.dat (.clause n)=>some (.clauses (l.set j n))
 | .elems l,.dat (.elem n)=>some (.elems (l.set j n))
 | .nH l,.row 0 false (.ints n)=>some (.nH (l.set j n))
 | .mO l,.row 0 false (.bools n)=>some (.mO (l.set j n))
 | .mP l,.row 0 false (.nH n)=>some (.mP (l.set j n))
 |_,_=>none
def aaC(h:Hz)(k:Nat):V->Option (Rw×List V)
 | .row k' _ r=>dL (Y1 k k' r) (some (r,[]))
 | .Gj k' _ l=>dL (Nat.beq k' k) (some (.nil,l))
 | .own o=>match h.get o with
  |some (.row _ ko r x)=>dL (Nat.beq ko k) (some (r,x))
  |_=>none
 |_=>none
def aaD(r:Rw)(x:List V)(r':Rw)(x':List V):Option (Rw×List V) :=
 match x,r' with
 |[],r'=>match r.app r' with|some w=>some (w,x')|none=>none
 |x,.nil=>some (r,x++x')
 |_,_=>none
def xI(r:Rw)(x:List V):Nat :=
 match x with
 |[]=>r.len
 |x=>r.len+x.length
def yc(bytes:Nat)(a b:Nat):Prop:=(a+b)*bytes<=140737488355328/\a+b<=1152921504606846976
def setCells(v:V)(off:Nat)(u:V):Option V :=
 match v.cells,u.cells with
 |some l,some c=>some (.agg (l.take off++c++l.drop (off+c.length)))
 |_,_=>none
def Kq:List V->(List V->Prop)->Prop
 |[],K=>K []
 |v::r,K=>Kq r fun r'=>K (v::r')
def V.force(v:V)(K:V->Prop):Prop :=
 match v with
 | .agg l=>Kq l fun l=>K (.agg l)
 |v=>K v
theorem RY: ∀ {l:List V} {K:List V->Prop},Kq l K=K l:=by
 intro l
 induction l with
 |nil=>intro K; rfl
 |cons v r ih=>intro K; show Kq r (fun r'=>K (v::r'))=_; rw[ih]
theorem V.force_eq(v:V)(K:V->Prop):v.force K=K v:=by
 cases v<;>first|rfl|exact RY
structure acP(c p a b:Prop):Prop where
 ok:(c\/b)/\p/\a
def X3(dr:Bool)(d:Option Nat)(n:Nat)(m:Fm)(h:Hz)(K:Fm->Hz->Prop):kS->Prop
 | .box ty k x=>match zA m x with
  |some v=>match v.bare with
   |(v,s)=>bif H8 k [v]&&v.iL h&&qK k then s.vc none (K (jh d (.ptr n 0 0) m) ((n,some (.box ty k v))::h)) else False
  |none=>False
 | .al ty k z=>bif z.kd==k&&z.iL h.aI&&z.free&&qK k then K (jh d (.ptr n 0 0) m) ((n,some (.box ty k (BM z)))::h) else False
 | .make ty k bytes z x y=>match zA m x,zA m y with
  |some (.int a),some (.int b)=>bif z.kd==k&&z.iL h.aI&&z.free&&qK k then
    (match (bif isZero (.int a) then some .nil else WU a.toNat z) with
    |some r=>VC (0<=a/\a<=b/\b*bytes<=140737488355328/\b<=1152921504606846976) (K (jh d (.own n) m) ((n,some (.row ty k r []))::h))
    |none=>False) else False
  |_,_=>False
 | .st k x v=>match zA m x,zA m v with
  |some (.ptr i j off),some v=>match v.bare with
   |(v,s)=>bif H8 k [v]&&v.iL h then
    (match h.get i with
    |some (.box ty ko w)=>bif Nat.beq j 0 then
      (bif Nat.beq off 0&&Nat.beq ko k then s.vc none (K m ((i,some (.box ty ko v))::h))
      else bif !(Nat.beq ko 0)&&jc (aU ko) off k then(match setCells w off v with
       |some w'=>w'.force fun w'=>s.vc none (K m ((i,some (.box ty ko w'))::h))
       |none=>False) else False) else False
    |some (.row ty ko r [])=>bif Nat.beq off 0&&Nat.beq ko k then(match r.set j v with
      |some r'=>s.vc none (VC (r.rng j) (K m ((i,some (.row ty ko r' []))::h)))
      |none=>False) else False
    |_=>False) else False
  |_,_=>False
 | .app ty k bytes x y=>match zA m x,zA m y with
  |some x,some y=>match aaC h k y with
   |some (r',x')=>(match x with
    | .row _ true .nil=>VC (yc bytes 0 (xI r' x')) (K (jh d (.own n) m) ((n,some (.row ty k r' x'))::h))
    | .row k' true r=>bif Nat.beq k' k then(match r.app r' with
     |some w=>acP (r.len=0\/0<xI r' x') (yc bytes r.len (xI r' x')) (K (jh d (.own n) m) ((n,some (.row ty k w x'))::h)) (dr=false/\K (jh d (.row k' true r) m) h)
     |none=>False) else False
    | .own i=>(match h.get i with
     |some (.row ty' ko r x)=>bif Nat.beq ko k&&Nat.beq ty' ty then(match aaD r x r' x' with
      |some (w,z)=>VC (yc bytes (xI r x) (xI r' x')) (K (jh d (.own n) m) ((n,some (.row ty k w z))::(i,none)::h))
      |none=>False) else False
     |_=>False)
    |_=>False)
   |none=>False
  |_,_=>False
 | .KU k z x=>match zA m x with
  |some (.lF i lo hi)=>match h.get i with
   |some (.row ty ko r [])=>bif Nat.beq ko k&&z.kd==k&&z.iL h.aI&&z.free then
     VC (lo<=hi/\hi=r.len) (match d with
      |none=>K m ((i,some (.row ty ko (r.take lo) (List.replicate (hi-lo) (BM z))))::h)
      |some _=>K (jh d (.raw T.un) m) ((i,some (.row ty ko (r.take lo) (List.replicate (hi-lo) (BM z))))::h)) else False
   |_=>False
  |_=>False
 | .DL ty k z nn ps=>match yE m (ps.map fun p=>p.2) with
  |some (vs,s)=>match Vf nn ps vs (List.replicate nn (BM z)) with
   |some l=>bif (z.kd==k)&&z.free&&H8 k vs&&zO h vs&&Nat.ble (nn*aU k) 16777216&&qK k then s.vc none (K (jh d (.own n) m) ((n,some (.row ty k .nil l))::h)) else False
   |none=>False
  |none=>False
 | .vF x=>match zA m x with
  |some (.row _ _ r)=>aaB (r.len=0) (K (jh d (.bool true) m) h) (K (jh d (.bool false) m) h)
  |some (.own i)=>match h.get i with
   |some (.row _ ko r [])=>bif Nat.beq ko dK then False else aaB (r.len=0) (K (jh d (.bool true) m) h) (K (jh d (.bool false) m) h)
   |_=>False
  |_=>False
 | .P5 ty=>K (jh d (.own n) m) ((n,some (.map ty [] []))::h)
 | .WA z x i=>match zA m x,zA m i with
  |some (.own o),some (.int k)=>match h.get o with
   |some (.map _ es [])=>abL (D8 k es) (fun l=>K (jh d (.iF [.row 0 false (.bools l),.bool true]) m) h) (K (jh d (.iF [BM z,.bool false]) m) h)
   |_=>False
  |_,_=>False
 | .Jt x i v=>match zA m x,zA m i,zA m v with
  |some (.own o),some (.int k),some v=>match v.bare with
   |(v,s)=>match h.get o with
    |some (.map ty es [])=>bif H8 0 [v]&&v.iL h then s.vc none (VC (D8 k es=none) (K m ((o,some (.map ty es [(k,v)]))::h))) else False
    |_=>False
  |_,_,_=>False
 |_=>False
def aaE(P:Program)(dr:Bool)(nx n:Nat)(o:ay)(KK:Nat->Fm->Hz->Prop)(m:Fm)(h:Hz):Prop :=
 match Pm m o.g with
 |none=>False
 |some g=>bif Ea nx o m then
   (match o.op with
   | .call f xs=>(match yE m xs with
    |some (l,s)=>s.vc g (match g with
     |none=>Ap dr o.fl (ah P false none f l h n (fun v h'=>v.seq fun v=>KK 0 (jh o.d v m) h') (fun k v h'=>v.seq fun v=>KK k (jh o.d v m) h')) (ah P true none f l h n (fun v h'=>v.seq fun v=>KK 0 (jh o.d v m) h') (fun _ _ _=>False)) (ah P false none f l h n (fun v h'=>v.seq fun v=>KK 0 (jh o.d v m) h') (fun _ _ _=>False))
     |some b=>Ap dr o.fl (ah P false (some b) f l h n (fun v h'=>v.seq fun v=>KK 0 (jh o.d (pX (some b) v) m) h') (fun _ _ _=>False)) (ah P true (some b) f l h n (fun v h'=>v.seq fun v=>KK 0 (jh o.d (pX (some b) v) m) h') (fun _ _ _=>False)) (ah P false (some b) f l h n (fun v h'=>v.seq fun v=>KK 0 (jh o.d (pX (some b) v) m) h') (fun _ _ _=>False)))
    |none=>False)
   | .jQ x xs=>(match zA m x,yE m xs with
    |some v,some (l,s)=>(match v.bare with
     |(.fn f cap,s0)=>(s0.and s).vc g (bif Nat.blt f 4096 then Ap dr o.fl (ah P false g f (l++cap) h n (fun v h'=>v.seq fun v=>KK 0 (jh o.d (pX g v) m) h') (fun _ _ _=>False)) (ah P true g f (l++cap) h n (fun v h'=>v.seq fun v=>KK 0 (jh o.d (pX g v) m) h') (fun _ _ _=>False)) (ah P false g f (l++cap) h n (fun v h'=>v.seq fun v=>KK 0 (jh o.d (pX g v) m) h') (fun _ _ _=>False)) else Ap dr o.fl (ah P false g (f % 4096) (.agg cap::l) h n (fun v h'=>v.seq fun v=>KK 0 (jh o.d (pX g v) m) h') (fun _ _ _=>False)) (ah P true g (f % 4096) (.agg cap::l) h n (fun v h'=>v.seq fun v=>KK 0 (jh o.d (pX g v) m) h') (fun _ _ _=>False)) (ah P false g (f % 4096) (.agg cap::l) h n (fun v h'=>v.seq fun v=>KK 0 (jh o.d (pX g v) m) h') (fun _ _ _=>False)))
     |_=>False)
    |_,_=>False)
   |op=>(match qz m h op with
    |some (v,s)=>s.vc g (v.seq fun v=>KK 0 (jh o.d (pX g v) m) h)
    |none=>(match g with
     |none=>X3 dr o.d n m h (KK 0) op
     |some b=>Fork b (X3 dr o.d n m h (KK 0) op) (KK 0 (jh o.d (.cnd false (.int 0)) m) h))))
   else False
def adZ(P:Program)(nx n:Nat)(o:ay)(KK:Nat->Fm->Hz->Prop)(m:Fm)(h:Hz):Prop :=
 match o.op,o.g with
 | .call f xs,none=>bif o.fl&&Ea nx o m then
   (match yE m xs with
   |some (l,s)=>s.vc none (ah P true none f l h n (fun v h'=>v.seq fun v=>KK 0 (jh o.d v m) h') (fun _ v h'=>v.seq fun v=>KK 0 (jh o.d v m) h'))
   |none=>False)
   else False
 |_,_=>False
def arZ(P:Program)(nx n:Nat)(o:ay)(KK:Nat->Fm->Hz->Prop)(m:Fm)(h:Hz):Prop :=
 match o.op,o.g with
 | .call f xs,none=>bif o.fl&&Ea nx o m then
   (match yE m xs with
   |some (l,s)=>s.vc none (PY P f l h n (fun v h'=>v.seq fun v=>KK 0 (jh o.d v m) h'))
   |none=>False)
   else False
 |_,_=>False
def opZ(P:Program)(dr:Bool)(nx n:Nat)(o:ay)(KK:Nat->Fm->Hz->Prop)(m:Fm)(h:Hz):Prop :=
 match o.ar with
 |true=>arZ P nx n o KK m h
 |false=>match o.ad with
 |true=>adZ P nx n o KK m h
 |false=>aaE P dr nx n o KK m h
def MV(P:Program)(dr:Bool)(ml:Nat)(nx:Nat)(K:Fm->Hz->Nat->Prop):List ay->Nat->Fm->Hz->Prop
 |[],_,m,h=>K m h (nx+ml)
 |o::r,i,m,h=>opZ P dr nx (nx+i) o (fun k=>MV P dr ml (nx+k) K r (i+1)) m h
abbrev Qz:=nD->Fm->Hz->Nat->Prop
def Lift(N pn:Nat)(Q:Qz)(e:nD)(s:AS):Prop:= ∃ m h,s.fr.length=N/\Rp m s.fr/\s.hp=h.aI/\s.pin=pn/\Q e m h s.nx
structure aX(P:Program)(N pn:Nat)(b:dU)(Q:Qz)(m:Fm)(h:Hz)(nx:Nat):Prop where
 ok: ∀ fr,fr.length=N->Rp m fr->xJ (aw P b) (Lift N pn Q) ⟨fr,h.aI,nx,pn⟩
def az(P:Program)(N pn:Nat):dU->Qz->Fm->Hz->Nat->Prop
 | .skip,Q,m,h,nx=>Q .normal m h nx
 | .reg dr ops,Q,m,h,nx=>MV P dr ops.length nx (fun m h nx=>Q .normal m h nx) ops 0 m h
 | .seq a b,Q,m,h,nx=>az P N pn a (fun e m h nx=>match e with| .normal=>az P N pn b Q m h nx|e=>Q e m h nx) m h nx
 | .cond c a b,Q,m,h,nx =>
  match zA m c with
  |some (.bool t)=>Fork t (az P N pn a Q m h nx) (az P N pn b Q m h nx)
  |_=>False
 | .blk id b,Q,m,h,nx=>az P N pn b (fun e m h nx=>match e with| .exit j=>(bif Nat.beq j id then Q .normal m h nx else Q (.exit j) m h nx)|e=>Q e m h nx) m h nx
 | .exit id,Q,m,h,nx=>Q (.exit id) m h nx
 | .ret,Q,m,h,nx=>Q .ret m h nx
 | .loop b,Q,m,h,nx=>aX P N pn b Q m h nx
def Kr(N:Nat):List ay->Bool
 |[]=>true
 |o::r=>(match o.d with|some d=>Nat.blt d N|none=>true)&&Kr N r
def qR(N:Nat):dU->Bool
 | .skip=>true
 | .reg _ ops=>Kr N ops
 | .seq a b=>qR N a&&qR N b
 | .cond _ a b=>qR N a&&qR N b
 | .blk _ b=>qR N b
 | .exit _=>true
 | .ret=>true
 | .loop b=>qR N b
section
variable {P:Program} {m:Fm} {h:Hz}
theorem dI{i:Nat}{o:Option OV}:Hz.aI ((i,o)::h)=upd h.aI i (o.map OV.bJ):=by
 funext j
 simp only[Hz.aI,Hz.get,upd]
 by_cases e:j=i
 ·subst e; simp
 ·have:Nat.beq i j=false:=by
   cases hb:Nat.beq i j with
   |false=>rfl
   |true=>exact absurd (ku hb).symm e
  simp[this,e]
theorem Rp.put{fr:List T}(R:Rp m fr){d:Option Nat}{v:V}(hd: ∀ i,d=some i->i<fr.length){s:AS}(hs:s.fr=fr):Rp (jh d v m) (s.put d v.aG).fr:=by
 subst hs
 cases d with
 |none=>exact R
 |some d =>
  intro i u hu
  simp only[jh,Fm.get] at hu
  show(s.fr.set d v.aG)[i]? =_
  cases hb:Nat.beq d i with
  |true =>
   rw[hb] at hu; simp at hu; subst hu
   have:=ku hb; subst this
   rw[List.getElem?_set_self (hd d rfl)]
  |false =>
   rw[hb] at hu
   have hne:d≠i:=Nat.ne_of_beq_eq_false hb
   rw[List.getElem?_set_ne hne]
   exact R i u hu
theorem Qw{s:AS}{d:Option Nat}{t:T}:(s.put d t).fr.length=s.fr.length:=by cases d<;>simp[AS.put]
theorem o8{g:Option Bool}{k:Prop}{s:Sd}(q:s.vc g k):((g=none\/g=some true)->s.holds)/\k:=by
 unfold Sd.vc at q
 split at q
 ·exact⟨fun _=>trivial,q⟩
 ·split at q
  ·obtain⟨a,b⟩:=q; exact⟨fun _=>a,b⟩
  ·obtain⟨a,b⟩:=q; exact⟨fun hg=>a (by rcases hg with e|e<;>cases e; rfl),b⟩
theorem RZ{s:AS}(R:Rp m s.fr){g:Option (Nat×Bool)}{g':Option Bool}(q:Pm m g=some g'):(gv g s=some true/\(g'=none\/g'=some true))\/(gv g s=some false/\g'=some false):=by
 unfold Pm at q
 split at q
 ·cases q; exact .inl ⟨rfl,.inl rfl⟩
 ·rename_i d w
  split at q
  ·rename_i b e
   cases q
   have hg:s.fr.getD d .any= .lit (.bool b):=R.getD e
   simp only[gv,hg]
   cases w<;>cases b<;>simp
  ·rename_i c b e
   cases q
   have hg:s.fr.getD d .any=bif c then .lit (.bool b) else T.un:=R.getD e
   cases c with
   |true=>simp only[gv,hg,cond_true]; cases w<;>cases b<;>simp
   |false=>simp only[gv,hg,cond_false]; simp
  ·cases q
theorem X4{s:AS}(R:Rp m s.fr){nx:Nat}: ∀ {xs:List X},ltX nx m xs=true->(xs.all fun x=>T.lt nx (s.ev x))=true:=by
 intro xs
 induction xs with
 |nil=>intro _; rfl
 |cons x r ih =>
  intro q
  simp only[ltX,Bool.and_eq_true] at q
  simp only[List.all_cons,Bool.and_eq_true]
  refine⟨?_,ih q.2⟩
  have:=q.1
  split at this
  ·rename_i v e; rw[R.ev e]; exact this
  ·cases this
theorem Vs{s:AS}(R:Rp m s.fr){i:Nat}: ∀ {xs:List X},X0 i m xs=true->(xs.all fun x=>T.YG i (s.ev x))=true:=by
 intro xs
 induction xs with
 |nil=>intro _; rfl
 |cons x r ih =>
  intro q
  simp only[X0,Bool.and_eq_true] at q
  simp only[List.all_cons,Bool.and_eq_true]
  refine⟨?_,ih q.2⟩
  have:=q.1
  split at this
  ·rename_i v e; rw[R.ev e]; exact this
  ·cases this
theorem aaF{s:AS}(R:Rp m s.fr){xs:List X}: ∀ {l:List Nat},neB m xs l=true->Fe s xs l=true:=by
 intro l
 induction l with
 |nil=>intro _; rfl
 |cons d r ih =>
  intro q
  simp only[neB,Bool.and_eq_true] at q
  simp only[Fe,Bool.and_eq_true]
  refine⟨?_,ih q.2⟩
  have:=q.1
  split at this
  ·rename_i i j o e
   have hg:s.fr.getD d .any= .ptr i j o:=R.getD e
   simp only[AS.obj,hg]
   exact Vs R this
  ·cases this
theorem Gp{s:AS}(R:Rp m s.fr){o:ay}(q:Ea s.nx o m=true):iI o s:=by
 unfold Ea at q
 simp only[Bool.and_eq_true,Bool.or_eq_true,Bool.not_eq_true'] at q
 refine⟨fun hf=>?_,aaF R q.2⟩
 have h1:Vr s.nx m o.op=true:=by
  rcases q.1 with h|h
  ·rw[hf] at h; cases h
  ·exact h
 unfold Vr at h1
 split at h1
 ·rename_i k x v e
  rw[e]
  split at h1
  ·rename_i u hu; simp only; rw[R.ev hu]; exact h1
  ·cases h1
 ·rename_i e
  rw[e]
  split at h1
  ·rename_i u hu; simp only; rw[R.ev hu]; exact h1
  ·cases h1
 ·cases h1
 ·cases h1
 ·rename_i e; rw[e]
 ·rename_i e; rw[e]
 ·rename_i op h2 h3 h4 h5 h6 h7
  have:=X4 R h1
  split
  ·rename_i e; exact absurd e (h2 _ _ _)
  ·rename_i e; exact absurd e (h3 _ _ _ _ _)
  ·rename_i e; exact absurd e (h4 _ _ _)
  ·rename_i e; exact absurd e (h5 _ _ _)
  ·rfl
  ·rfl
  ·exact this
def Kz(N pn nx:Nat)(K:Fm->Hz->Prop)(s:AS):Prop:= ∃ m h,s.fr.length=N/\Rp m s.fr/\s.hp=h.aI/\s.pin=pn/\s.nx=nx/\K m h
theorem Si{k:Nat}{v:V}(q:H8 k [v]=true):v.aG.kd=k:=V.Ko (EK q v (by simp))
theorem X5{n:Nat}{z:T}{r:Rw}(q:WU n z=some r):r.bQ=List.replicate n z:=by
 unfold WU at q
 split at q<;>cases q
 ·simp[Rw.bQ]
 ·simp[Rw.bQ]
 ·simp only[Rw.bQ,List.map_replicate]; rw[Y2]
theorem Rw.X6{j:Nat}{v:V}{r w:Rw}(q:r.set j v=some w):w.bQ=r.bQ.set j v.aG:=by
 unfold Rw.set at q
 split at q<;>first|(cases q; done)|(cases q; simp[Rw.bQ,V.aG,Dat.aG,List.map_set])
theorem X7{k:Nat}{y:V}{r:Rw}{x:List V}(q:aaC h k y=some (r,x)):LK h.aI k y.aG= .list (r.bQ++V.bQ x):=by
 unfold aaC at q
 split at q
 ·rename_i k' f w
  obtain⟨g,q⟩:=aN q; cases q
  simp only[V.aG,LK,V.bQ,List.append_nil]
  rcases Dv g with rfl|e
  ·cases r.bQ<;>simp
  ·rw[e]
 ·rename_i k' f l
  obtain⟨g,q⟩:=aN q; cases q
  have:=ku g; subst this
  simp only[V.aG,LK,Rw.bQ,List.nil_append]
  cases hx:V.bQ x<;>simp
 ·split at q
  ·rename_i o _ ty ko w z e
   obtain⟨g,q⟩:=aN q; cases q
   have:=ku g; subst this
   simp[V.aG,LK,cu e,OV.bJ]
  ·cases q
 ·cases q
theorem BQ{r:Rw}{x:List V}:xI r x=(r.bQ++V.bQ x).length:=by
 unfold xI
 split
 ·simp[V.bQ,Rw.fE]
 ·simp[jd,Rw.fE]
theorem X8{r r' w:Rw}{x x' z:List V}(q:aaD r x r' x'=some (w,z)):w.bQ++V.bQ z=(r.bQ++V.bQ x)++(r'.bQ++V.bQ x'):=by
 unfold aaD at q
 split at q
 ·split at q
  ·rename_i w' e; cases q; rw[Rw.J9 e]; simp[V.bQ]
  ·cases q
 ·cases q; simp[xC,Rw.bQ]
 ·cases q
theorem aaG{k:Int}: ∀ {es:List (Int×List Bool)},sQ k (es.map J6)=(D8 k es).map fun l=>.sl 0 false (l.map T.bool):=by
 intro es
 induction es with
 |nil=>rfl
 |cons e es ih =>
  obtain⟨m,l⟩:=e
  simp only[List.map_cons,J6,sQ,T.int,D8]
  cases k==m
  ·exact ih
  ·rfl
theorem abM{k:Int}{v:T}: ∀ {es:List (Int×List Bool)},D8 k es=none->xR k v (es.map J6)=es.map J6++[.iF [.int k,v]]:=by
 intro es
 induction es with
 |nil=>intro _; rfl
 |cons e es ih =>
  obtain⟨m,l⟩:=e
  intro h
  simp only[D8] at h
  cases hb:k==m with
  |true=>rw[hb] at h; cases h
  |false =>
   rw[hb] at h
   simp only[List.map_cons,J6,xR,T.int,hb,cond_false,List.cons_append]
   rw[ih h]
theorem IX{N pn n nx:Nat}{d:Option Nat}{op:kS}{K:Fm->Hz->Prop}{s:AS}{dr:Bool}(hl:s.fr.length=N)(hd: ∀ i,d=some i->i<N)(R:Rp m s.fr)(hh:s.hp=h.aI)(hp:s.pin=pn)(hn:s.nx=nx)(q:X3 dr d n m h K op) :
  jP P dr n d op (Kz N pn nx K) s:=by
 have hd': ∀ i,d=some i->i<s.fr.length:=fun i e=>by rw[hl]; exact hd i e
 have fin: ∀ {v:V} {h':Hz},K (jh d v m) h'->Kz N pn nx K {(s.put d v.aG) with hp:=h'.aI}:=fun {v h'} hk =>
  ⟨_,h',by show(s.put d v.aG).fr.length=N; rw[Qw,hl],R.put (v:=v) hd' rfl,rfl,by show(s.put d v.aG).pin=pn; cases d<;>exact hp,by show(s.put d v.aG).nx=nx; cases d<;>exact hn,hk⟩
 unfold X3 at q
 split at q
 ·rename_i ty k x
  split at q
  ·rename_i v e
   split at q
   rename_i v' s' hb
   cases g:H8 k [v']&&v'.iL h&&qK k with
   |false=>rw[g] at q; exact q.elim
   |true =>
    rw[g] at q
    simp only[Bool.and_eq_true] at g
    simp only[cond_true] at q
    obtain⟨hs,hk⟩:=o8 q
    have ev:s.ev x=v'.aG:=by rw[R.ev e]; exact jG hb (hs (.inl rfl))
    simp only[jP]
    rw[ev,Si g.1.1,hh,V.wF g.1.2,g.2]
    refine⟨by simp,?_⟩
    have:=fin hk
    rw[dI] at this
    exact this
  ·exact q.elim
 ·rename_i ty k z
  cases g:z.kd==k&&z.iL h.aI&&z.free&&qK k with
  |false=>rw[g] at q; exact q.elim
  |true =>
   rw[g] at q
   simp only[jP]
   rw[hh,g]
   refine⟨rfl,?_⟩
   have:=fin q
   rw[dI] at this
   simp only[Option.map_some,OV.bJ,xA] at this
   exact this
 ·rename_i ty k bytes z x y
  split at q
  ·rename_i a b e1 e2
   cases g:z.kd==k&&z.iL h.aI&&z.free&&qK k with
   |false=>rw[g] at q; exact q.elim
   |true =>
    rw[g] at q
    simp only[cond_true] at q
    split at q
    ·rename_i r er
     obtain⟨c,hk⟩:=q
     simp only[jP]
     rw[R.ev e1,R.ev e2]
     simp only[V.aG]
     rw[hh,g]
     refine⟨rfl,c,?_⟩
     have:=fin hk
     rw[dI] at this
     simp only[Option.map_some,OV.bJ,V.bQ,List.append_nil] at this
     have hr:r.bQ=List.replicate a.toNat z:=by
      cases hz:isZero (.int a) with
      |false=>rw[hz] at er; exact X5 er
      |true =>
       rw[hz] at er; cases er
       unfold isZero at hz
       split at hz
       ·rename_i e; cases e; rfl
       ·cases hz
     rw[hr] at this
     exact this
    ·exact q.elim
  ·exact q.elim
 ·rename_i k x v
  split at q
  ·rename_i i j off v0 e1 e2
   split at q
   rename_i v' s' hb
   cases g:H8 k [v']&&v'.iL h with
   |false=>rw[g] at q; exact q.elim
   |true =>
    rw[g] at q
    simp only[Bool.and_eq_true] at g
    simp only[cond_true] at q
    have fin2: ∀ {h':Hz},K m h'->Kz N pn nx K {s with hp:=h'.aI}:=fun {h'} hk=>⟨m,h',hl,R,rfl,hp,hn,hk⟩
    have ex:s.ev x= .ptr i j off:=R.ev e1
    simp only[jP]
    rw[ex]
    simp only
    split at q
    ·rename_i ty ko w eo
     rw[hh,cu eo]
     simp only[OV.bJ]
     cases hj:Nat.beq j 0 with
     |false=>rw[hj] at q; exact q.elim
     |true =>
      have:=ku hj; subst this
      rw[hj] at q
      simp only[cond_true] at q
      cases hb2:(Nat.beq off 0&&Nat.beq ko k) with
      |true =>
       rw[hb2] at q
       simp only[cond_true] at q
       obtain⟨hs,hk⟩:=o8 q
       have ev:s.ev v=v'.aG:=by rw[R.ev e2]; exact jG hb (hs (.inl rfl))
       simp only[Bool.and_eq_true] at hb2
       have f1:=ku hb2.1; have f2:=ku hb2.2; subst f1; subst f2
       rw[ev,Si g.1,V.wF g.2]
       refine⟨by simp,by simp,by simp,?_⟩
       have:=fin2 hk
       rw[dI] at this
       simp only[BEq.rfl,Bool.and_self,cond_true,List.set_cons_zero]
       exact this
      |false =>
       rw[hb2] at q
       simp only[cond_false] at q
       cases hc:(!(Nat.beq ko 0)&&jc (aU ko) off k) with
       |false=>rw[hc] at q; exact q.elim
       |true =>
        rw[hc] at q
        simp only[cond_true] at q
        split at q
        ·rename_i w' hw
         rw[V.force_eq] at q
         obtain⟨hs,hk⟩:=o8 q
         have ev:s.ev v=v'.aG:=by rw[R.ev e2]; exact jG hb (hs (.inl rfl))
         have hb':(off==0&&ko==k)=false:=by
          rw[Bool.and_eq_false_iff] at hb2 ⊢
          rcases hb2 with hb2|hb2
          ·left; simpa using Nat.ne_of_beq_eq_false hb2
          ·right; simpa using Nat.ne_of_beq_eq_false hb2
         simp only[Bool.and_eq_true] at hc
         rw[ev,Si g.1,V.wF g.2]
         refine⟨by simp,by simp,?_,?_⟩
         ·simp only[hb',Bool.false_or,Bool.and_eq_true]; exact⟨Vl hc.1,hc.2⟩
         ·have:=fin2 hk
          rw[dI] at this
          simp only[hb',cond_false,List.set_cons_zero,List.getD_cons_zero]
          have ew:w.aG.splice off v'.aG=w'.aG:=by
           unfold setCells at hw
           split at hw
           ·rename_i l c f1 f2
            cases hw
            unfold T.splice
            rw[V.Dt f1,V.Dt f2]
            simp only[V.aG,xC,Gm,Gn,jd]
           ·cases hw
          rw[ew]
          exact this
        ·exact q.elim
    ·rename_i ty ko r eo
     rw[hh,cu eo]
     simp only[OV.bJ,V.bQ,List.append_nil]
     cases hb2:(Nat.beq off 0&&Nat.beq ko k) with
     |false=>rw[hb2] at q; exact q.elim
     |true =>
      rw[hb2] at q
      simp only[cond_true] at q
      split at q
      ·rename_i r' hr
       obtain⟨hs,hk0⟩:=o8 q
       obtain⟨acQ,hk⟩:=hk0
       have ev:s.ev v=v'.aG:=by rw[R.ev e2]; exact jG hb (hs (.inl rfl))
       simp only[Bool.and_eq_true] at hb2
       have f1:=ku hb2.1; have f2:=ku hb2.2; subst f1; subst f2
       rw[Rw.BN] at acQ
       rw[ev,Si g.1,V.wF g.2]
       refine⟨by simp,by rw[Rw.fE]; omega,by simp,?_⟩
       have:=fin2 hk
       rw[dI] at this
       simp only[Option.map_some,OV.bJ,V.bQ,List.append_nil,Rw.X6 hr] at this
       simp only[BEq.rfl,Bool.and_self,cond_true]
       exact this
      ·exact q.elim
    ·exact q.elim
  ·exact q.elim
 ·rename_i ty k bytes x y
  split at q
  ·rename_i vx vy e1 e2
   split at q
   ·rename_i r' x' es
    simp only[jP]
    rw[R.ev e1,R.ev e2,hh,X7 es]
    simp only
    split at q
    ·rename_i k'
     obtain⟨c,hk⟩:=q
     have e0:(V.row k' true Rw.nil).aG= .sl k' true []:=rfl
     rw[e0]
     unfold yc at c
     rw[BQ] at c
     refine⟨.inr rfl,.inl (.inl rfl),by simpa using c.1,by simpa using c.2,?_⟩
     have:=fin hk
     rw[dI] at this
     exact this
    ·rename_i k' r hnn
     cases hb2:Nat.beq k' k with
     |false=>rw[hb2] at q; exact q.elim
     |true =>
      rw[hb2] at q
      have:=ku hb2; subst this
      simp only[cond_true] at q
      split at q
      ·rename_i w hw
       obtain⟨c1,c2,hk⟩:=q.ok
       simp only[V.aG]
       unfold yc at c2
       rw[BQ] at c1 c2
       refine⟨.inl trivial,?_,by rw[Rw.fE]; exact c2.1,by rw[Rw.fE]; exact c2.2,?_⟩
       ·rcases c1 with (c|c)|⟨c,hk2⟩
        ·left; left; exact List.eq_nil_of_length_eq_zero (by rw[Rw.fE]; exact c)
        ·left; right; intro e; rw[e] at c; simp at c
        ·right
         refine⟨c,?_⟩
         have f1:=fin hk2
         rw[<- hh] at f1
         rw[show({(s.put d (V.row k' true r).aG) with hp:=s.hp}:AS)=s.put d (.sl k' true r.bQ) by cases d<;>rfl] at f1
         exact f1
       ·have:=fin hk
        rw[dI] at this
        simp only[Option.map_some,OV.bJ,Rw.J9 hw,List.append_assoc] at this
        exact this
      ·exact q.elim
    ·rename_i i
     split at q
     ·rename_i ty' ko r xx eo
      cases hb2:(Nat.beq ko k&&Nat.beq ty' ty) with
      |false=>rw[hb2] at q; exact q.elim
      |true =>
       rw[hb2] at q
       simp only[cond_true] at q
       simp only[Bool.and_eq_true] at hb2
       have f1:=ku hb2.1; have f2:=ku hb2.2; subst f1; subst f2
       split at q
       ·rename_i w z hw
        obtain⟨c,hk⟩:=q
        simp only[V.aG,cu eo,OV.bJ]
        unfold yc at c
        rw[BQ,BQ] at c
        refine⟨by simp,c.1,c.2,?_⟩
        have:=fin hk
        rw[dI,dI] at this
        simp only[Option.map_some,Option.map_none,OV.bJ,X8 hw] at this
        exact this
       ·exact q.elim
     ·exact q.elim
    ·exact q.elim
   ·exact q.elim
  ·exact q.elim
 ·rename_i k z x
  split at q
  ·rename_i i lo hi e
   split at q
   ·rename_i ty ko r eo
    cases g:(Nat.beq ko k&&z.kd==k&&z.iL h.aI&&z.free) with
    |false=>rw[g] at q; exact q.elim
    |true =>
     rw[g] at q
     simp only[cond_true] at q
     obtain⟨⟨c1,c2⟩,hk⟩:=q
     simp only[Bool.and_eq_true] at g
     obtain⟨⟨⟨g1,g2⟩,g3⟩,g4⟩:=g
     have f1:=ku g1; subst f1
     simp only[jP]
     rw[R.ev e]
     simp only[V.aG,hh,cu eo,OV.bJ]
     refine⟨by simp[g2,g3,g4],by simp[Rw.fE,c2,V.bQ],?_⟩
     have el:(r.take lo).bQ++V.bQ (List.replicate (hi-lo) (BM z))=List.take lo (r.bQ++V.bQ [])++List.replicate (hi-lo) z++List.drop hi (r.bQ++V.bQ []):=by
      rw[Rw.BO,nS,List.map_replicate,xA]
      simp[V.bQ,Rw.fE,c2]
     cases d with
     |none =>
      simp only at hk
      refine⟨_,_,hl,R,?_,hp,hn,hk⟩
      rw[dI]
      simp only[Option.map_some,OV.bJ,el]
     |some dd =>
      simp only at hk
      have:=fin hk
      rw[dI] at this
      simp only[Option.map_some,OV.bJ,el] at this
      exact this
   ·exact q.elim
  ·exact q.elim
 ·rename_i ty k z nn ps
  split at q
  ·rename_i vs s' hb
   split at q
   ·rename_i l hl
    cases g:((z.kd==k)&&z.free&&H8 k vs&&zO h vs&&Nat.ble (nn*aU k) 16777216&&qK k) with
    |false=>rw[g] at q; exact q.elim
    |true =>
     rw[g] at q
     simp only[cond_true] at q
     obtain⟨hs,hk⟩:=o8 q
     have he:=qQ R hb (hs (.inl rfl))
     have he':(ps.map fun p=>s.ev p.2)=V.bQ vs:=by rw[<- he]; simp
     simp only[Bool.and_eq_true] at g
     obtain⟨⟨⟨⟨⟨g1,g2⟩,g3⟩,g4⟩,g5⟩,g6⟩:=g
     obtain⟨i1,i2⟩:=Qu hl he' g3
     have e:V.bQ (List.replicate nn (BM z))=List.replicate nn z:=by rw[nS,List.map_replicate,xA]
     rw[e] at i2
     simp only[jP]
     rw[i1,i2,he',hh,Du g4,g1,g2,g5,g6]
     refine⟨rfl,?_⟩
     have:=fin hk
     rw[dI] at this
     simp only[Option.map_some,OV.bJ,Rw.bQ,List.nil_append] at this
     exact this
   ·exact q.elim
  ·exact q.elim
 ·rename_i x
  split at q
  ·rename_i k' f r e
   obtain⟨q1,q2⟩:=q
   simp only[jP]
   rw[R.ev e]
   have f1:=fun hz=>fin (q1 hz)
   have f2:=fin q2
   rw[<- hh] at f1 f2
   refine⟨fun hl=>?_,?_⟩
   ·have:=f1 (by rw[<- Rw.fE]; exact congrArg List.length hl)
    rw[show({(s.put d (V.bool true).aG) with hp:=s.hp}:AS)=s.put d (.lit (.bool true)) by cases d<;>rfl] at this
    exact this
   ·rw[show({(s.put d (V.bool false).aG) with hp:=s.hp}:AS)=s.put d (.lit (.bool false)) by cases d<;>rfl] at f2
    exact f2
  ·rename_i i e
   split at q
   ·rename_i ty ko r eo
    cases hb:Nat.beq ko dK with
    |true=>rw[hb] at q; exact q.elim
    |false =>
     rw[hb] at q
     obtain⟨q1,q2⟩:=q
     simp only[jP]
     rw[R.ev e]
     have f1:=fun hz=>fin (q1 hz)
     have f2:=fin q2
     rw[<- hh] at f1 f2
     simp only[V.aG,hh,cu eo,OV.bJ]
     refine⟨fun hl=>?_,?_,Nat.ne_of_beq_eq_false hb⟩
     ·have:=f1 (by rw[<- Rw.fE]; simpa [V.bQ] using congrArg List.length hl)
      rw[show({(s.put d (V.bool true).aG) with hp:=s.hp}:AS)=s.put d (.lit (.bool true)) by cases d<;>rfl] at this
      exact this
     ·rw[show({(s.put d (V.bool false).aG) with hp:=s.hp}:AS)=s.put d (.lit (.bool false)) by cases d<;>rfl] at f2
      exact f2
   ·exact q.elim
  ·exact q.elim
 ·rename_i ty
  simp only[jP]
  have:=fin q
  rw[dI] at this
  rw[hh]
  exact this
 ·rename_i z x i
  split at q
  ·rename_i o k e1 e2
   split at q
   ·rename_i ty es eo
    obtain⟨q1,q2⟩:=q
    rw[bf rfl]
    simp only[qc,qt]
    rw[R.ev e1,R.ev e2]
    simp only[V.aG,T.int,hh,cu eo,OV.bJ,List.map_nil,List.append_nil,aaG]
    refine⟨trivial,?_⟩
    cases hg:D8 k es with
    |some l =>
     have f1:=fin (q1 l hg)
     rw[<- hh] at f1
     rw[show({(s.put d (V.iF [.row 0 false (.bools l),.bool true]).aG) with hp:=s.hp}:AS)=s.put d (.iF [.sl 0 false (l.map T.bool),.lit (.bool true)]) by cases d<;>rfl] at f1
     exact f1
    |none =>
     have f2:=fin (q2 hg)
     rw[<- hh] at f2
     rw[show({(s.put d (V.iF [BM z,.bool false]).aG) with hp:=s.hp}:AS)=s.put d (.iF [(BM z).aG,.lit (.bool false)]) by cases d<;>rfl,xA] at f2
     exact f2
   ·exact q.elim
  ·exact q.elim
 ·rename_i x i v
  split at q
  ·rename_i o k w e1 e2 e3
   split at q
   rename_i v' s' hb
   split at q
   ·rename_i ty es eo
    cases g:H8 0 [v']&&v'.iL h with
    |false=>rw[g] at q; exact q.elim
    |true =>
     rw[g] at q
     simp only[Bool.and_eq_true] at g
     simp only[cond_true] at q
     obtain⟨hs,c,hk⟩:=o8 q
     have ev:s.ev v=v'.aG:=by rw[R.ev e3]; exact jG hb (hs (.inl rfl))
     have hkd:=Si g.1
     have hst:=V.wF g.2
     simp only[jP]
     rw[R.ev e1,R.ev e2,ev]
     simp only[V.aG,T.int,hh,cu eo,OV.bJ,List.map_nil,List.append_nil]
     refine⟨trivial,?_,?_⟩
     ·rw[hkd]
      have:v'.aG.uf h.aI=true:=by
       revert hst hkd
       cases v'.aG<;>simp[T.iL,T.kd]
      rw[this]; rfl
     ·have hK:Kz N pn nx K {s with hp:=Hz.aI ((o,some (.map ty es [(k,v')]))::h)}:=⟨m,_,hl,R,rfl,hp,hn,hk⟩
      rw[dI] at hK
      have:=abM (v:=v'.aG) c
      simp only[T.int] at this
      rw[this]
      exact hK
   ·exact q.elim
  ·exact q.elim
 ·exact q.elim
end
section
variable {P:Program} {m:Fm} {h:Hz}
theorem Kz.put{N pn nx:Nat}{K:Fm->Hz->Prop}{s:AS}{d:Option Nat}{v:V}{t:T}{h':Hz}(hl:s.fr.length=N)(hd: ∀ i,d=some i->i<N)(R:Rp m s.fr)(hp:s.pin=pn)(hn:s.nx=nx)(ht:t=v.aG)(hk:K (jh d v m) h') :
  Kz N pn nx K {(s.put d t) with hp:=h'.aI}:=by
 subst ht
 exact⟨_,h',by show(s.put d v.aG).fr.length=N; rw[Qw,hl],R.put (v:=v) (fun i e=>by rw[hl]; exact hd i e) rfl,rfl,by show(s.put d v.aG).pin=pn; cases d<;>exact hp,by show(s.put d v.aG).nx=nx; cases d<;>exact hn,hk⟩
theorem Gq{N pn nx n:Nat}{K:Fm->Hz->Prop}{KW:Nat->Fm->Hz->Prop}{s:AS}{d:Option Nat}{dr:Bool}{g:Option Bool}{f:FuncId}{l:List V}(hl:s.fr.length=N)(hd: ∀ i,d=some i->i<N)(R:Rp m s.fr)(hh:s.hp=h.aI)(hp:s.pin=pn)(hn:s.nx=nx)
  (hg:g=none\/g=some true) (q:ah P dr g f l h n (fun v h'=>v.seq fun v=>K (jh d (pX g v) m) h') (fun k v h'=>v.seq fun v=>KW k (jh d v m) h')) (hq:dr=true-> ∀ (v:V) (h':Hz),¬ (v.seq fun v=>KW 0 (jh d v m) h')) :
  jY P dr n d f (V.bQ l) (Kz N pn nx K) s\/(dr=false/\ ∃ k,wR P f (V.bQ l) s.hp n k fun t hp=>Kz N pn (nx+k) (KW k) {(s.put d t) with hp:=hp,nx:=s.nx+k}):=by
 unfold jY
 rw[hh]
 rcases q.ok with q|⟨rfl,rfl,k,q⟩|⟨_,hdr,_,⟨_,_,v,o,_,_,hk⟩,_⟩
 rotate_left
 rotate_left
 ·exact absurd hk (hq hdr _ _)
 rotate_left
 ·refine .inr ⟨rfl,k,q.mono ?_⟩
  rintro t hp' ⟨v,h',rfl,rfl,hk⟩
  rw[V.seq_eq] at hk
  obtain⟨m',h'',a1,a2,a3,a4,_,a6⟩:=Kz.put (K:=KW k) hl hd R hp hn rfl hk
  exact⟨m',h'',a1,a2,a3,a4,by show s.nx+k=nx+k; rw[hn],a6⟩
 left
 rcases hg with rfl|rfl
 ·refine bF.mono q ?_
  rintro t hp' ⟨v,h',e1,e2,e3,hk⟩
  rw[V.seq_eq] at hk
  subst e2
  refine⟨fun e=>⟨by rw[(e3 e).1],(e3 e).2⟩,Kz.put (v:=v) hl hd R hp hn e1 hk⟩
 ·rcases q with ⟨v,c,hf,hk⟩|⟨hdr,c,_⟩
  rotate_left
  ·refine bF.mono (c rfl) ?_
   rintro t hp' ⟨v,h',e1,e2,hk⟩
   rw[V.seq_eq] at hk
   subst e2
   exact⟨fun e=>(by rw[hdr] at e; cases e),Kz.put (v:=pX (some true) v) hl hd R hp hn (e1.trans (Dw v).symm) hk⟩
  rw[V.seq_eq] at hk
  refine bF.mono (c rfl) ?_
  rintro t hp' ⟨e1,e2⟩
  subst e2
  refine⟨fun _=>⟨rfl,by rw[e1]; exact V.qJ v hf⟩,Kz.put (v:=pX (some true) v) hl hd R hp hn (by rw[e1]; exact(Dw v).symm) hk⟩
theorem uG{N pn nx n:Nat}{K:Fm->Hz->Prop}{s:AS}{d:Option Nat}{dr:Bool}{g:Option Bool}{f:FuncId}{l:List V}(hl:s.fr.length=N)(hd: ∀ i,d=some i->i<N)(R:Rp m s.fr)(hh:s.hp=h.aI)(hp:s.pin=pn)(hn:s.nx=nx)
  (hg:g=none\/g=some true) (q:ah P dr g f l h n (fun v h'=>v.seq fun v=>K (jh d (pX g v) m) h') (fun _ _ _=>False)):jY P dr n d f (V.bQ l) (Kz N pn nx K) s:=by
 rcases Gq (KW:=fun _ _ _=>False) hl hd R hh hp hn hg ⟨q.ok.imp id fun h=>h.imp (fun⟨a,b,k,c⟩=>⟨a,b,k,c.mono fun _ _ ⟨_,_,_,_,h⟩=>h.elim⟩) (fun⟨a,b,d,c⟩=>⟨a,b,d,c.mono fun _ _ ⟨_,_,_,_,h⟩=>h.elim⟩)⟩ (fun _ v h' hk=>by rw[V.seq_eq] at hk; exact hk) with h|⟨_,k,⟨t,hp',hk⟩,_⟩
 ·exact h
 ·obtain⟨_,_,_,_,_,_,_,hk⟩:=hk; exact hk.elim
theorem ah.guard{dr:Bool}{f:FuncId}{args:List V}{n:Nat}{K:V->Hz->Prop}{KW:Nat->V->Hz->Prop}(q:ah P dr (some false) f args h n K KW): ∃ v,K v h:=by
 rcases q.ok with (⟨v,_,_,k⟩|⟨_,_,k⟩)|⟨h1,_⟩|⟨h1,_⟩
 ·exact⟨v,k⟩
 ·exact⟨_,k rfl⟩
 ·cases h1
 ·cases h1
theorem Sj{dr fl:Bool}{a b c:Prop}:Ap dr fl a b c↔(dr=false/\a)\/(dr=true/\bif fl then c else b):=by
 cases dr<;>cases fl<;>simp[Ap]
theorem qA{dr fl:Bool}{C:Bool->Prop}(q:Ap dr fl (C false) (C true) (C false)):C (dr&& !fl):=by
 cases dr<;>cases fl<;>exact q
theorem Pn{N pn nx n:Nat}{KK:Nat->Fm->Hz->Prop}{s:AS}{o:ay}{dr:Bool}(hl:s.fr.length=N)(hd: ∀ i,o.d=some i->i<N)(R:Rp m s.fr)(hh:s.hp=h.aI)(hp:s.pin=pn)(hn:s.nx=nx)
  (q:aaE P dr nx n o KK m h):(gv o.g s=some true/\iI o s/\(jP P (o.dr dr) n o.d o.op (Kz N pn nx (KK 0)) s\/YH P dr n o.d o.op (fun s'=> ∃ k,Kz N pn (nx+k) (KK k) s') s))\/(gv o.g s=some false/\Kz N pn nx (KK 0) (s.put o.d T.un)):=by
 unfold aaE at q
 split at q
 ·exact q.elim
 ·rename_i g hg
  cases hf:Ea nx o m with
  |false=>rw[hf] at q; exact q.elim
  |true =>
   rw[hf] at q
   simp only[cond_true] at q
   have hfl:iI o s:=Gp R (by rw[hn]; exact hf)
   have un: ∀ {v:V} {h':Hz},h'=h->KK 0 (jh o.d (pX (some false) v) m) h'->Kz N pn nx (KK 0) (s.put o.d T.un):=fun {v h'} e hk=>by
    subst e
    have:=Kz.put (s:=s) (v:=pX (some false) v) (t:=T.un) hl hd R hp hn (Pj v).symm hk
    rw[<- hh] at this
    have e2:({(s.put o.d T.un) with hp:=s.hp}:AS)=s.put o.d T.un:=by
     cases o.d<;>rfl
    rw[e2] at this
    exact this
   rcases RZ R hg with ⟨h1,h2⟩|⟨h1,rfl⟩
   ·refine .inl ⟨h1,hfl,?_⟩
    split at q
    ·rename_i f xs eo
     split at q
     ·rename_i l sd hb
      obtain⟨hs,q⟩:=o8 q
      have ed:o.dr dr=(dr&& !o.fl):=by unfold ay.dr; rw[eo]
      rw[ed,eo]
      show jY P (dr&& !o.fl) n o.d f (xs.map s.ev) _ s\/(dr=false/\ ∃ k,wR P f (xs.map s.ev) s.hp n k _)
      rw[qQ R hb (hs h2)]
      split at q
      ·rw[Sj] at q
       rcases q with ⟨e,q⟩|q
       ·rw[e]
        exact(Gq (g:=none) hl hd R hh hp hn h2 q (fun e=>by cases e)).imp id fun⟨a,k,b⟩=>⟨a,k,b.mono fun _ _ hk=>⟨k,hk⟩⟩
       ·obtain⟨hdt,q⟩:=q
        refine .inl (uG (g:=none) hl hd R hh hp hn h2 ?_)
        rw[hdt]
        cases hf2:o.fl<;>rw[hf2] at q<;>exact q
      ·rename_i bb _
       exact .inl (uG hl hd R hh hp hn h2 (qA (C:=fun dr=>ah P dr (some bb) f l h n (fun v h'=>v.seq fun v=>KK 0 (jh o.d (pX (some bb) v) m) h') (fun _ _ _=>False)) q))
     ·exact q.elim
    ·rename_i x xs eo
     split at q
     ·rename_i v0 l sd e1 hb
      split at q
      ·rename_i f cap s0 hb0
       obtain⟨hs,q⟩:=o8 q
       have hs2:=Sd.mZ.1 (hs h2)
       have ed:o.dr dr=(dr&& !o.fl):=by unfold ay.dr; rw[eo]
       rw[ed,eo]
       left
       simp only[jP]
       rw[R.ev e1,jG hb0 hs2.1]
       simp only[V.aG]
       rw[qQ R hb hs2.2,<- xC]
       cases hbl:Nat.blt f 4096 with
       |true=>rw[hbl] at q; exact uG hl hd R hh hp hn h2 (qA (C:=fun dr=>ah P dr g f (l++cap) h n (fun v h'=>v.seq fun v=>KK 0 (jh o.d (pX g v) m) h') (fun _ _ _=>False)) q)
       |false=>rw[hbl] at q; exact uG (l:=.agg cap::l) hl hd R hh hp hn h2 (qA (C:=fun dr=>ah P dr g (f % 4096) (.agg cap::l) h n (fun v h'=>v.seq fun v=>KK 0 (jh o.d (pX g v) m) h') (fun _ _ _=>False)) q)
      ·exact q.elim
     ·exact q.elim
    ·rename_i hn1 hn2
     have ed:o.dr dr=dr:=by
      unfold ay.dr
      split
      ·rename_i e; exact absurd e (hn1 _ _)
      ·rename_i e; exact absurd e (hn2 _ _)
      ·rfl
     rw[ed]
     left
     split at q
     ·rename_i v sd hq
      obtain⟨hs,hk⟩:=o8 q
      rw[V.seq_eq] at hk
      obtain⟨hqu,hc,ht⟩:=Vq R hh hq (hs h2)
      rw[bf hqu]
      refine⟨hc,?_⟩
      have:=Kz.put (s:=s) (v:=pX g v) (t:=qt s o.op) hl hd R hp hn (by rw[ht]; rcases h2 with rfl|rfl; rfl; exact(Dw v).symm) hk
      rw[<- hh] at this
      have e2:({(s.put o.d (qt s o.op)) with hp:=s.hp}:AS)=s.put o.d (qt s o.op):=by cases o.d<;>rfl
      rw[e2] at this
      exact this
     ·split at q
      ·exact IX hl hd R hh hp hn q
      ·rename_i b _
       rcases h2 with h2|h2
       ·cases h2
       ·cases h2
        obtain⟨qa,_⟩:=q
        exact IX hl hd R hh hp hn (qa rfl)
   ·refine .inr ⟨h1,?_⟩
    split at q
    ·split at q
     ·obtain⟨hs,q⟩:=o8 q
      obtain⟨v,hk⟩:=ah.guard (qA (C:=fun dr=>ah P dr (some false) _ _ h n (fun v h'=>v.seq fun v=>KK 0 (jh o.d (pX (some false) v) m) h') (fun _ _ _=>False)) q)
      rw[V.seq_eq] at hk
      exact un rfl hk
     ·exact q.elim
    ·split at q
     ·rename_i v0 l sd e1 hb
      split at q
      ·rename_i f cap s0 hb0
       obtain⟨hs,q⟩:=o8 q
       cases hbl:Nat.blt f 4096 with
       |true =>
        rw[hbl] at q
        obtain⟨v,hk⟩:=ah.guard (qA (C:=fun dr=>ah P dr (some false) f (l++cap) h n (fun v h'=>v.seq fun v=>KK 0 (jh o.d (pX (some false) v) m) h') (fun _ _ _=>False)) q)
        rw[V.seq_eq] at hk
        exact un rfl hk
       |false =>
        rw[hbl] at q
        obtain⟨v,hk⟩:=ah.guard (qA (C:=fun dr=>ah P dr (some false) (f % 4096) (.agg cap::l) h n (fun v h'=>v.seq fun v=>KK 0 (jh o.d (pX (some false) v) m) h') (fun _ _ _=>False)) q)
        rw[V.seq_eq] at hk
        exact un rfl hk
      ·exact q.elim
     ·exact q.elim
    ·split at q
     ·obtain⟨hs,hk⟩:=o8 q
      rw[V.seq_eq] at hk
      exact un rfl hk
     ·obtain⟨_,qb⟩:=q
      exact un (v:=.int 0) rfl (qb rfl)
theorem Sl{N pn nx n:Nat}{KK:Nat->Fm->Hz->Prop}{s:AS}{o:ay}{dr:Bool}(hl:s.fr.length=N)(hd: ∀ i,o.d=some i->i<N)(R:Rp m s.fr)(hh:s.hp=h.aI)(hp:s.pin=pn)(hn:s.nx=nx)
  (q:opZ P dr nx n o KK m h):(gv o.g s=some true/\iI o s/\(Zm P dr n o (Kz N pn nx (KK 0)) s\/YH P dr n o.d o.op (fun s'=> ∃ k,Kz N pn (nx+k) (KK k) s') s))\/(gv o.g s=some false/\Kz N pn nx (KK 0) (s.put o.d T.un)):=by
 unfold opZ at q
 cases har:o.ar with
 |true =>
  rw[har] at q
  simp only at q
  unfold arZ at q
  split at q
  ·rename_i f xs eo eg
   cases hf:(o.fl&&Ea nx o m) with
   |false=>rw[hf] at q; exact q.elim
   |true =>
    rw[hf] at q
    simp only[cond_true] at q
    rw[Bool.and_eq_true] at hf
    have hfl:iI o s:=Gp R (by rw[hn]; exact hf.2)
    refine .inl ⟨by rw[eg]; rfl,hfl,.inl (.inr ⟨har,hf.1,?_⟩)⟩
    split at q
    ·rename_i l sd hb
     obtain⟨hs,q⟩:=o8 q
     obtain⟨v,ob,c1,c2,c3,hk⟩:=q.ok
     rw[eo]
     refine⟨v.aG,ob.map OV.bJ,c1,?_,?_,?_⟩
     ·intro o' ho'
      cases ob with
      |none=>cases ho'
      |some ob=>cases ho'; exact c2 _ rfl
     ·intro hp' he _
      rw[qQ R hb (hs (.inl rfl))]
      exact c3 hp' (by rw[<- hh]; exact he)
     ·rw[V.seq_eq] at hk
      cases ob with
      |none =>
       show Kz N pn nx (KK 0) {(s.put o.d v.aG) with hp:=s.hp}
       rw[hh]
       exact Kz.put (v:=v) hl hd R hp hn rfl hk
      |some ob =>
       have e:gI s.hp n (some ob.bJ)=Hz.aI ((n,some ob)::h):=by rw[dI,hh]; rfl
       show Kz N pn nx (KK 0) {(s.put o.d v.aG) with hp:=gI s.hp n (some ob.bJ)}
       rw[e]
       exact Kz.put (v:=v) hl hd R hp hn rfl hk
    ·exact q.elim
  ·exact q.elim
 |false =>
 rw[har] at q
 simp only at q
 cases had:o.ad with
 |false =>
  rw[had] at q
  rcases Pn hl hd R hh hp hn q with ⟨h1,h2,h3⟩|h1
  ·exact .inl ⟨h1,h2,h3.imp (fun h=>.inl ⟨har,jw (fun s' _ _ h=>⟨fun e=>(by rw[had] at e; cases e),h⟩) h⟩) id⟩
  ·exact .inr h1
 |true =>
  rw[had] at q
  simp only at q
  unfold adZ at q
  split at q
  ·rename_i f xs eo eg
   cases hf:(o.fl&&Ea nx o m) with
   |false=>rw[hf] at q; exact q.elim
   |true =>
    rw[hf] at q
    simp only[cond_true] at q
    rw[Bool.and_eq_true] at hf
    have hfl:iI o s:=Gp R (by rw[hn]; exact hf.2)
    refine .inl ⟨by rw[eg]; rfl,hfl,.inl (.inl ⟨har,?_⟩)⟩
    split at q
    ·rename_i l sd hb
     obtain⟨hs,q⟩:=o8 q
     have ed:o.dr dr=false:=by unfold ay.dr; rw[eo,hf.1]; cases dr<;>rfl
     rw[ed,eo]
     show bF P f (xs.map s.ev) s.hp n _
     rw[qQ R hb (hs (.inl rfl)),hh]
     have hx: ∀ {h':Hz} {s':AS},s'.hp=h'.aI->(h'=h\/ ∃ o,h'=(n,some o)::h/\h.get n=none)-> ∀ i ob,s.hp i=some ob->s'.hp i=some ob:=by
      intro h' s' e1 e2 i ob hi
      rw[e1]
      rw[hh] at hi
      rcases e2 with rfl|⟨o',rfl,hn0⟩
      ·exact hi
      ·rw[dI]
       have hne:i≠n:=by
        rintro rfl
        simp only[Hz.aI,hn0] at hi; cases hi
       simp only[upd,if_neg hne]; exact hi
     rcases q.ok with q|⟨_,e,_⟩|⟨_,_,hn0,q⟩
     ·refine bF.mono q ?_
      rintro t hp' ⟨v,h',e1,e2,e3,hk⟩
      rw[V.seq_eq] at hk
      subst e2
      exact⟨(fun e=>by cases e),fun _=>hx rfl (.inl (e3 rfl).1),Kz.put (v:=v) hl hd R hp hn e1 hk⟩
     ·cases e
     ·refine bF.mono q ?_
      rintro t hp' ⟨v,o',e1,e2,hk⟩
      rw[V.seq_eq] at hk
      subst e2
      exact⟨(fun e=>by cases e),fun _=>hx rfl (.inr ⟨o',rfl,hn0⟩),Kz.put (v:=v) hl hd R hp hn e1 hk⟩
    ·exact q.elim
  ·exact q.elim
theorem MW{N pn ml:Nat}{K:Fm->Hz->Nat->Prop}{dr:Bool}: ∀ {nx:Nat} {ops:List ay} {i:Nat} {m:Fm} {h:Hz} {s:AS},Kr N ops=true->s.fr.length=N->Rp m s.fr->s.hp=h.aI->s.pin=pn->s.nx=nx ->
  MV P dr ml nx K ops i m h->nG P dr ml (fun s=> ∃ m h,s.fr.length=N/\Rp m s.fr/\s.hp=h.aI/\s.pin=pn/\K m h s.nx) ops i s:=by
 intro nx ops
 induction ops generalizing nx with
 |nil =>
  intro i m h s _ hl R hh hp hn q
  exact⟨m,h,hl,R,hh,hp,by show K m h (s.nx+ml); rw[hn]; exact q⟩
 |cons o r ih =>
  intro i m h s hd hl R hh hp hn q
  simp only[Kr,Bool.and_eq_true] at hd
  have hd1: ∀ j,o.d=some j->j<N:=fun j e=>by
   have:=hd.1
   rw[e] at this
   simpa using this
  simp only[nG]
  rw[wX]
  have next: ∀ s',s'.nx=s.nx->s'.pin=s.pin->Kz N pn nx (MV P dr ml nx K r (i+1)) s'->nG P dr ml (fun s=> ∃ m h,s.fr.length=N/\Rp m s.fr/\s.hp=h.aI/\s.pin=pn/\K m h s.nx) r (i+1) s':=by
   rintro s' _ _ ⟨m',h',a1,a2,a3,a4,a5,a6⟩
   exact ih hd.2 a1 a2 a3 a4 a5 a6
  have abN: ∀ s',(∃ k,Kz N pn (nx+k) (MV P dr ml (nx+k) K r (i+1)) s')->nG P dr ml (fun s=> ∃ m h,s.fr.length=N/\Rp m s.fr/\s.hp=h.aI/\s.pin=pn/\K m h s.nx) r (i+1) s':=by
   rintro s' ⟨k,m',h',a1,a2,a3,a4,a5,a6⟩
   exact ih hd.2 a1 a2 a3 a4 a5 a6
  rcases Sl hl hd1 R hh hp hn q with ⟨h1,h2,h3⟩|⟨h1,h2⟩
  ·refine .inl ⟨h1,h2,?_⟩
   rw[hn]
   exact h3.imp (fun h=>h.imp (fun h=>⟨h.1,jw (fun s' a b c=>⟨c.1,next s' a b c.2⟩) h.2⟩) fun h=>⟨h.1,h.2.1,FT (fun s' a b c=>next s' a b c) h.2.2⟩) (MF abN)
  ·exact .inr ⟨h1,next _ (dX _ _ _) (gu _ _ _) h2⟩
theorem wG{N pn:Nat}: ∀ {c:dU} {Q:Qz} {m:Fm} {h:Hz} {s:AS},qR N c=true->s.fr.length=N->Rp m s.fr->s.hp=h.aI->s.pin=pn->az P N pn c Q m h s.nx->aw P c (Lift N pn Q) s:=by
 intro c
 induction c with
 |skip=>intro Q m h s _ hl R hh hp q; exact⟨m,h,hl,R,hh,hp,q⟩
 |reg dr ops =>
  intro Q m h s hd hl R hh hp q
  exact MW hd hl R hh hp rfl q
 |seq a b ia ib =>
  intro Q m h s hd hl R hh hp q
  simp only[qR,Bool.and_eq_true] at hd
  simp only[aw]
  refine oU ?_ (ia hd.1 hl R hh hp q)
  rintro e s' ⟨m',h',b1,b2,b3,b4,b5⟩
  cases e with
  |normal=>exact ib hd.2 b1 b2 b3 b4 b5
  |exit j=>exact⟨m',h',b1,b2,b3,b4,b5⟩
  |ret=>exact⟨m',h',b1,b2,b3,b4,b5⟩
 |cond c a b ia ib =>
  intro Q m h s hd hl R hh hp q
  simp only[qR,Bool.and_eq_true] at hd
  simp only[az] at q
  simp only[aw]
  split at q
  ·rename_i t e
   rw[R.ev e]
   obtain⟨q1,q2⟩:=q
   exact⟨fun e=>ia hd.1 hl R hh hp (q1 e),fun e=>ib hd.2 hl R hh hp (q2 e)⟩
  ·exact q.elim
 |blk id b ib =>
  intro Q m h s hd hl R hh hp q
  simp only[aw]
  refine oU ?_ (ib hd hl R hh hp q)
  rintro e s' ⟨m',h',b1,b2,b3,b4,b5⟩
  cases e with
  |normal=>exact⟨m',h',b1,b2,b3,b4,b5⟩
  |ret=>exact⟨m',h',b1,b2,b3,b4,b5⟩
  |exit j =>
   simp only at b5 ⊢
   by_cases e:j=id
   ·subst e; simp at b5 ⊢; exact⟨m',h',b1,b2,b3,b4,b5⟩
   ·have e1:Nat.beq j id=false:=by
     cases hb:Nat.beq j id with
     |false=>rfl
     |true=>exact absurd (ku hb) e
    have e2:(j==id)=false:=by simpa using e
    rw[e1] at b5; rw[e2]
    exact⟨m',h',b1,b2,b3,b4,b5⟩
 |exit i=>intro Q m h s _ hl R hh hp q; exact⟨m,h,hl,R,hh,hp,q⟩
 |ret=>intro Q m h s _ hl R hh hp q; exact⟨m,h,hl,R,hh,hp,q⟩
 |loop b ib =>
  intro Q m h s _ hl R hh hp q
  have:=q.ok s.fr hl R
  rw[<- hh,<- hp] at this
  simp only[aw]
  rw[hp] at this
  have e:(⟨s.fr,s.hp,s.nx,pn⟩:AS)=s:=by rw[<- hp]
  rw[e] at this
  exact this
end
end Go.Ab
