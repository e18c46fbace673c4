/-
 Three laws in use. No condition.
-/
import Derived.Test.YtbfhebmdcpmfaaaGreatDoorLd
import Derived.Test.YtbfhebmdcpmfaaaGreatDoorLc
namespace Go.Ab
theorem gU{l:List T}:T.dB l=true↔ ∀ t∈l,t.free=true:=by
 induction l with
 |nil=>simp[T.dB]
 |cons t ts ih=>simp[T.dB,ih]
theorem DR.trans{s s' s'':AS}(h:DR s s')(h':DR s' s''):DR s s'':=by
 induction h' with
 |refl=>exact h
 |slot a _ ih=>exact .slot a ih
 |cell a _ ih=>exact .cell a ih
 |take a _ ih=>exact .take a ih
 |fz a _ ih=>exact .fz a ih
theorem Pq{p:Nat->Prop}: ∀ n,p n-> ∃ m,p m/\ ∀ k,p k->m<=k:=by
 intro n
 induction n using Nat.strongRecOn with
 |ind n ih =>
  intro hn
  by_cases h: ∃ k,k<n/\p k
  ·obtain⟨k,h1,h2⟩:=h; exact ih k h1 h2
  ·exact⟨n,hn,fun k hk=>Nat.le_of_not_lt fun hlt=>h ⟨k,hlt,hk⟩⟩
inductive Dat where
 |lin (x:X7)
 |Pv (x:xY)
 |rule (x:Rule)
 |dJ (x:aW)
 |cnt (x:Cnt)
 |prop (x:Prop')
 |clause (x:Clause)
 |elem (x:Elem)
inductive Rw where
 |ints (l:List Int)
 |bools (l:List Bool)
 |strs (l:List Str)
 |kP (l:List (List Int))
 |zK (l:List X7)
 |pz (l:List xY)
 |rules (l:List Rule)
 |cnts (l:List Cnt)
 |clauses (l:List Clause)
 |elems (l:List Elem)
 |nil
inductive V where
 |int (n:Int)
 |bool (b:Bool)
 |u8 (n:Int)
 |str (s:Str)
 |dat (d:Dat)
 |agg (l:List V)
 |row (k:Nat) (full:Bool) (r:Rw)
 |xR (k:Nat) (full:Bool) (l:List V)
 |ref (k:Nat) (v:V)
 |own (i:Nat)
 |ptr (i j off:Nat)
 |qw (i lo hi:Nat)
 |fn (f:FuncId) (cap:List V)
 |gQ (l:List V)
 |cnd (b:Bool) (v:V)
 |raw (t:T)
def Dat.aG:Dat->T
 | .lin x=>Po x
 | .Pv x=>MX x
 | .rule x=>Fq x
 | .dJ x=>Un x
 | .cnt x=>VK x
 | .prop x=>abJ x
 | .clause x=>nK x
 | .elem x=>rQ x
def Dat.kd:Dat->Nat
 | .lin _=>5
 | .Pv _=>7
 | .rule _=>19
 | .dJ _=>11
 | .cnt _=>3
 | .prop _=>7
 | .clause _=>4
 | .elem _=>3
def Rw.aT:Rw->List T
 | .ints l=>l.map T.int
 | .bools l=>l.map T.bool
 | .strs l=>l.map eS
 | .kP l=>l.map Go.Ab.ints
 | .zK l=>l.map Po
 | .pz l=>l.map MX
 | .rules l=>l.map Fq
 | .cnts l=>l.map VK
 | .clauses l=>l.map nK
 | .elems l=>l.map rQ
 | .nil=>[]
mutual
def V.aG:V->T
 | .int n=>.int n
 | .bool b=>.bool b
 | .u8 n=>.lit (.int .u8 n)
 | .str s=>eS s
 | .dat d=>d.aG
 | .agg l=>.agg (V.aT l)
 | .row k f r=>.sl k f r.aT
 | .xR k f l=>.sl k f (V.aT l)
 | .ref k v=>.ref k v.aG
 | .own i=>.own i
 | .ptr i j off=>.ptr i j off
 | .qw i lo hi=>.qw i lo hi
 | .fn f cap=>.fn f (V.aT cap)
 | .gQ l=>.gQ (V.aT l)
 | .cnd b v=>bif b then v.aG else T.un
 | .raw t=>t
def V.aT:List V->List T
 |[]=>[]
 |v::r=>v.aG::V.aT r
end
def Dat.cells:Dat->List V
 | .lin x=>[.int x.c,.int x.n,.int x.t,.int x.f]
 | .Pv x=>[.int x.message,.int x.CO,.int x.bound.c,.int x.bound.n,.int x.bound.t,.int x.bound.f]
 | .rule x=>[.str x.name,.int x.kind,.int x.fr,.int x.to,.int x.iQ,.int x.BA,.row 0 false (.ints x.response),.row 7 false (.pz x.guards),.row 0 false (.ints x.ex),.row 0 false (.ints x.all),.int x.read,.int x.write,.row 0 false (.ints x.send),.int x.pos,.row 0 false (.ints x.left),.row 0 false (.ints x.right),.row 0 false (.ints x.parent),.int x.direction]
 | .dJ x=>[.str x.name,.int x.topology,.row 0 false (.strs x.states),.row 0 false (.strs x.messages),.row 0 false (.strs x.values),.int x.fault,.row 5 false (.zK x.bT),.row 0 false (.ints x.initial),.row 0 false (.ints x.leader),.row 19 false (.rules x.rules)]
 | .cnt x=>[.row 0 false (.ints x.states),.int x.least]
 | .prop x=>[.str x.name,.int x.kind,.row 0 false (.ints x.start),.row 3 false (.cnts x.bad),.row 0 false (.ints x.adjacent),.row 0 false (.ints x.goal)]
 | .clause x=>[.row 0 false (.kP x.each),.row 0 false (.ints x.values),.row 0 false (.ints x.some)]
 | .elem x=>[.int x.value,.row 0 false (.ints x.counts)]
theorem Dat.D7(d:Dat):d.aG= .agg (V.aT d.cells):=by cases d<;>rfl
theorem Dat.aap(d:Dat):d.aG.kd=d.kd:=by cases d<;>rfl
def Rw.len:Rw->Nat
 | .ints l=>l.length
 | .bools l=>l.length
 | .strs l=>l.length
 | .kP l=>l.length
 | .zK l=>l.length
 | .pz l=>l.length
 | .rules l=>l.length
 | .cnts l=>l.length
 | .clauses l=>l.length
 | .elems l=>l.length
 | .nil=>0
def Rw.lenV:Rw->V
 | .ints l=>.int l.length
 | .bools l=>.int l.length
 | .strs l=>.int l.length
 | .kP l=>.int l.length
 | .zK l=>.int l.length
 | .pz l=>.int l.length
 | .rules l=>.int l.length
 | .cnts l=>.int l.length
 | .clauses l=>.int l.length
 | .elems l=>.int l.length
 | .nil=>.int 0
def Rw.rng(n:Int):Rw->Prop
 | .ints l=>0<=n/\n<l.length
 | .bools l=>0<=n/\n<l.length
 | .strs l=>0<=n/\n<l.length
 | .kP l=>0<=n/\n<l.length
 | .zK l=>0<=n/\n<l.length
 | .pz l=>0<=n/\n<l.length
 | .rules l=>0<=n/\n<l.length
 | .cnts l=>0<=n/\n<l.length
 | .clauses l=>0<=n/\n<l.length
 | .elems l=>0<=n/\n<l.length
 | .nil=>False
def Rw.lT(n:Int):Rw->Prop
 | .ints l=>0<=n/\n<=l.length
 | .bools l=>0<=n/\n<=l.length
 | .strs l=>0<=n/\n<=l.length
 | .kP l=>0<=n/\n<=l.length
 | .zK l=>0<=n/\n<=l.length
 | .pz l=>0<=n/\n<=l.length
 | .rules l=>0<=n/\n<=l.length
 | .cnts l=>0<=n/\n<=l.length
 | .clauses l=>0<=n/\n<=l.length
 | .elems l=>0<=n/\n<=l.length
 | .nil=>n=0
def Rw.get(i:Nat):Rw->V
 | .ints l=>.int (l.getD i 0)
 | .bools l=>.bool (l.getD i false)
 | .strs l=>.str (l.getD i [])
 | .kP l=>.row 0 false (.ints (l.getD i []))
 | .zK l=>.dat (.lin (l.getD i default))
 | .pz l=>.dat (.Pv (l.getD i default))
 | .rules l=>.dat (.rule (l.getD i default))
 | .cnts l=>.dat (.cnt (l.getD i default))
 | .clauses l=>.dat (.clause (l.getD i default))
 | .elems l=>.dat (.elem (l.getD i default))
 | .nil=>.raw .any
def Rw.take(i:Nat):Rw->Rw
 | .ints l=>.ints (l.take i)
 | .bools l=>.bools (l.take i)
 | .strs l=>.strs (l.take i)
 | .kP l=>.kP (l.take i)
 | .zK l=>.zK (l.take i)
 | .pz l=>.pz (l.take i)
 | .rules l=>.rules (l.take i)
 | .cnts l=>.cnts (l.take i)
 | .clauses l=>.clauses (l.take i)
 | .elems l=>.elems (l.take i)
 | .nil=>.nil
def Rw.drop(i:Nat):Rw->Rw
 | .ints l=>.ints (l.drop i)
 | .bools l=>.bools (l.drop i)
 | .strs l=>.strs (l.drop i)
 | .kP l=>.kP (l.drop i)
 | .zK l=>.zK (l.drop i)
 | .pz l=>.pz (l.drop i)
 | .rules l=>.rules (l.drop i)
 | .cnts l=>.cnts (l.drop i)
 | .clauses l=>.clauses (l.drop i)
 | .elems l=>.elems (l.drop i)
 | .nil=>.nil
def Rw.app:Rw->Rw->Option Rw
 |r,.nil=>some r
 | .nil,r=>some r
 | .ints a,.ints b=>some (.ints (a++b))
 | .bools a,.bools b=>some (.bools (a++b))
 | .strs a,.strs b=>some (.strs (a++b))
 | .kP a,.kP b=>some (.kP (a++b))
 | .zK a,.zK b=>some (.zK (a++b))
 | .pz a,.pz b=>some (.pz (a++b))
 | .rules a,.rules b=>some (.rules (a++b))
 | .cnts a,.cnts b=>some (.cnts (a++b))
 | .clauses a,.clauses b=>some (.clauses (a++b))
 | .elems a,.elems b=>some (.elems (a++b))
 |_,_=>none
def Rw.kd:Rw->Nat
 | .ints _=>0
 | .bools _=>0
 | .strs _=>0
 | .kP _=>0
 | .zK _=>5
 | .pz _=>7
 | .rules _=>19
 | .cnts _=>3
 | .clauses _=>4
 | .elems _=>3
 | .nil=>0
def V.one:V->Option Rw
 | .int n=>some (.ints [n])
 | .bool b=>some (.bools [b])
 | .str s=>some (.strs [s])
 | .row 0 false (.ints l)=>some (.kP [l])
 | .dat (.lin x)=>some (.zK [x])
 | .dat (.Pv x)=>some (.pz [x])
 | .dat (.rule x)=>some (.rules [x])
 | .dat (.cnt x)=>some (.cnts [x])
 | .dat (.clause x)=>some (.clauses [x])
 | .dat (.elem x)=>some (.elems [x])
 | .agg [.int a,.row 0 false (.ints c)]=>some (.elems [⟨a,c⟩])
 | .agg [.row 0 false (.ints c),.int a]=>some (.cnts [⟨c,a⟩])
 | .agg [.row 0 false (.kP e),.row 0 false (.ints v),.row 0 false (.ints s)]=>some (.clauses [⟨e,v,s⟩])
 |_=>none
def Rw.VL:List V->Option Rw
 |[]=>some .nil
 |v::r=>match v.one,Rw.VL r with
  |some a,some b=>a.app b
  |_,_=>none
inductive OV where
 |row (ty k:Nat) (r:Rw) (x:List V)
 |box (ty k:Nat) (v:V)
 |map (ty:Nat) (es:List (Int×List Bool)) (x:List (Int×V))
def yx(e:Int×List Bool):T:=.gQ [.int e.1,.sl 0 false (e.2.map T.bool)]
def zD(e:Int×V):T:=.gQ [.int e.1,e.2.aG]
def OV.aF:OV->Ob
 | .row ty k r x=>⟨ty,k,r.aT++V.aT x⟩
 | .box ty k v=>⟨ty,k,[v.aG]⟩
 | .map ty es x=>⟨ty,fC,es.map yx++x.map zD⟩
abbrev Fm:=List (Nat×V)
def Fm.get(i:Nat):Fm->Option V
 |[]=>none
 |(j,v)::r=>bif Nat.beq j i then some v else Fm.get i r
abbrev Hz:=List (Nat×Option OV)
def Hz.get(i:Nat):Hz->Option OV
 |[]=>none
 |(j,o)::r=>bif Nat.beq j i then o else Hz.get i r
def Hz.aj(h:Hz):Hp:=fun i=>(h.get i).map OV.aF
mutual
def zT:T->V
 | .lit (.int .i64 n)=>.int n
 | .lit (.int .u8 n)=>.u8 n
 | .lit (.bool b)=>.bool b
 | .lit (.string b)=>.str b.data.toList
 | .sl k f []=>.row k f .nil
 | .agg l=>.agg (VL l)
 | .fn f l=>.fn f (VL l)
 |t=>.raw t
def VL:List T->List V
 |[]=>[]
 |t::r=>zT t::VL r
end
def V.kd:V->Option Nat
 | .dat d=>some d.kd
 | .agg l=>some (l.length+1)
 | .cnd _ _=>none
 | .raw _=>none
 |_=>some 0
def V.cells:V->Option (List V)
 | .dat d=>some d.cells
 | .agg l=>some l
 | .cnd _ _=>none
 | .raw _=>none
 |v=>some [v]
def V.kG(h:Hz):V->Bool
 | .own i=>(h.get i).isSome
 | .ptr i _ _=>(h.get i).isSome
 | .qw i _ _=>(h.get i).isSome
 | .cnd _ _=>false
 | .raw _=>false
 | .gQ _=>false
 |_=>true
def V.part(off:Nat):Nat->V->Option V
 |0,.dat d=>d.cells[off]?
 |0,.agg l=>l[off]?
 |k+1,.dat (.Pv x)=>bif (Nat.beq off 2)&&(Nat.beq k 4) then some (.dat (.lin x.bound)) else none
 |k+1,.agg l=>some (.agg ((l.drop off).take k))
 |_,_=>none
inductive VC(p k:Prop):Prop where
 |mk:p->k->VC p k
inductive Fork(b:Bool)(x y:Prop):Prop where
 |mk:(b=true->x)->(b=false->y)->Fork b x y
inductive Sd where
 |no
 |yes (p:Prop)
def Sd.holds:Sd->Prop
 | .no=>True
 | .yes p=>p
def Sd.and:Sd->Sd->Sd
 | .no,b=>b
 |a,.no=>a
 | .yes p,.yes q=>.yes (p/\q)
def Sd.imp(t:Bool)(b:Bool):Sd->Sd
 | .no=>.no
 | .yes p=>.yes (t=b->p)
def Sd.vc(g:Option Bool)(k:Prop):Sd->Prop
 | .no=>k
 | .yes p=>match g with
  |none=>VC p k
  |some b=>VC (b=true->p) k
def V.bare:V->V×Sd
 | .cnd c v=>(v,.yes (c=true))
 |v=>(v,.no)
mutual
def V.free:V->Bool
 | .own _=>false
 | .ptr _ _ _=>false
 | .qw _ _ _=>false
 | .cnd _ _=>false
 | .raw t=>t.free
 | .agg l=>V.dB l
 | .fn _ l=>V.dB l
 | .gQ l=>V.dB l
 |_=>true
def V.dB:List V->Bool
 |[]=>true
 |v::r=>V.free v&&V.dB r
end
def zL(m:Fm):X->Option V
 | .t n=>m.get n
 | .c t=>some (zT t)
def evL(m:Fm):List X->Option (List V)
 |[]=>some []
 |x::r=>match zL m x,evL m r with
  |some v,some l=>some (v::l)
  |_,_=>none
abbrev xZ:=Option (V×Sd)
def KR(m:Fm)(x:X)(f:V->xZ):xZ :=
 match zL m x with
 |some v=>match v.bare with
  |(u,s)=>match f u with
   |some (r,s')=>some (r,s.and s')
   |none=>none
 |none=>none
def Y5(m:Fm)(x y:X)(f:V->V->xZ):xZ:=KR m x fun u=>KR m y fun v=>f u v
def okI(n:Int):Prop:= -9223372036854775808<=n/\n<9223372036854775808
def acK(a b:Int):Int:=a.fdiv (2 ^ min b.toNat 64)
def aaq(op:BinOp):V->V->xZ
 | .int a,.int b=>match op with
  | .add=>some (.int (a+b),.yes (okI (a+b)))
  | .sub=>some (.int (a-b),.yes (okI (a-b)))
  | .mul=>some (.int (a*b),.yes (okI (a*b)))
  | .eql=>some (.bool (a==b),.no)
  | .neq=>some (.bool (a !=b),.no)
  | .lss=>some (.bool (decide (a<b)),.no)
  | .leq=>some (.bool (decide (a<=b)),.no)
  | .gtr=>some (.bool (decide (b<a)),.no)
  | .geq=>some (.bool (decide (b<=a)),.no)
  |_=>none
 | .u8 a,.u8 b=>match op with
  | .eql=>some (.bool (a==b),.no)
  | .neq=>some (.bool (a !=b),.no)
  | .lss=>some (.bool (decide (a<b)),.no)
  | .leq=>some (.bool (decide (a<=b)),.no)
  | .gtr=>some (.bool (decide (b<a)),.no)
  | .geq=>some (.bool (decide (b<=a)),.no)
  |_=>none
 | .str a,.str b=>match op with
  | .eql=>some (.bool (a==b),.no)
  | .neq=>some (.bool (!(a==b)),.no)
  | .add=>some (.str (a++b),.yes (a.length+b.length<=9223372036854775807))
  |_=>none
 | .raw (.lit (.int .u64 a)),.raw (.lit (.int .u64 b))=>match op with
  | .shr=>some (.raw (.lit (.int .u64 (acK a b))),.yes (0<=b))
  | .and=>some (.raw (.lit (.int .u64 (ZK .u64 a b))),.no)
  | .eql=>some (.bool (a==b),.no)
  |_=>none
 |_,_=>none
def zx:X->Bool
 | .c (.lit (.bool true))=>true
 |_=>false
def wE:X->Bool
 | .c (.lit (.bool false))=>true
 |_=>false
def Y6(t:Bool)(xa xb:X):V->V->Option V
 | .bool x,.bool y=>bif zx xa then some (.bool (t||y)) else bif wE xb then some (.bool (t&&x)) else some (.bool (bif t then x else y))
 | .int x,.int y=>some (.int (bif t then x else y))
 | .str x,.str y=>some (.str (bif t then x else y))
 |_,_=>none
def VN(t:Bool)(xa xb:X)(a b:V×Sd):xZ :=
 match a,b with
 |(a,sa),(b,sb)=>match Y6 t xa xb a b with
  |some v=>some (v,(sa.imp t true).and (sb.imp t false))
  |none=>none
def dN{α:Type}(b:Bool)(x:Option α):Option α:=bif b then x else none
def V.Px(k:Nat):Option V->xZ
 |some u=>some (.ref k u,.no)
 |none=>none
def V.E9:Option V->xZ
 |some u=>some (u,.no)
 |none=>none
def faZ(h:Hz)(off k:Nat):V->xZ
 | .ref kt v=>dN (!(Nat.beq kt 0)&&lX (aZ kt) off k) (V.Px k (v.part off k))
 | .ptr i j o=>dN (h.get i).isSome (some (.ptr i j (o+off),.no))
 |_=>none
def fvZ(off k:Nat)(v:V):xZ :=
 match v.kd with
 |some kt=>dN (!(Nat.beq kt 0)&&lX (aZ kt) off k) (V.E9 (v.part off k))
 |none=>none
def aar:List V->Nat->Option V
 |[],_=>none
 |v::_,0=>some v
 |_::r,n+1=>aar r n
def iaZ(h:Hz)(k:Nat):V->V->xZ
 | .xR k' _ l,.int n=>match aar l n.toNat with
  |some v=>dN (Nat.beq k' k) (some (.ref k v,.yes (0<=n)))
  |none=>none
 | .row k' _ r,.int n=>dN (Nat.beq k' k) (some (.ref k (r.get n.toNat),.yes (r.rng n)))
 | .own o,.int n=>match h.get o with
  |some (.row _ k' r [])=>dN (Nat.beq k' k) (some (.ptr o n.toNat 0,.yes (r.rng n)))
  |_=>none
 | .qw o lo hi,.int n=>match h.get o with
  |some (.row _ k' _ [])=>dN (Nat.beq k' k) (some (.ptr o (lo+n.toNat) 0,.yes (0<=n/\n<(hi-lo:Nat))))
  |_=>none
 |_,_=>none
def chZ:V->V->xZ
 | .str s,.int n=>some (.u8 (s.getD n.toNat 0).toNat,.yes (0<=n/\n<s.length))
 |_,_=>none
def ldB(k j off ko:Nat)(v:V):xZ :=
 bif Nat.beq j 0 then(bif Nat.beq off 0&&Nat.beq ko k then some (v,.no) else dN (!(Nat.beq ko 0)&&lX (aZ ko) off k) (V.E9 (v.part off k))) else none
def ldR(k j off ko:Nat)(r:Rw):xZ :=
 bif Nat.beq off 0&&Nat.beq ko k then some (r.get j,.yes (r.rng j)) else
  match (r.get j).part off k with
  |some u=>dN (!(Nat.beq ko 0)&&lX (aZ ko) off k) (some (u,.yes (r.rng j)))
  |none=>none
def ldZ(h:Hz)(k:Nat):V->xZ
 | .ref k' v=>dN (Nat.beq k' k&&Nat.blt 0 (aZ k)) (some (v,.no))
 | .ptr i j off=>match h.get i with
  |some (.box _ ko v)=>ldB k j off ko v
  |some (.row _ ko r [])=>ldR k j off ko r
  |_=>none
 |_=>none
def ncZ(h:Hz):V->xZ
 | .ref k v=>some (.ref k v,.no)
 | .ptr i j o=>dN (h.get i).isSome (some (.ptr i j o,.no))
 | .fn f l=>some (.fn f l,.no)
 |_=>none
def aas(h:Hz)(str:Bool):V->xZ
 | .row _ _ r=>dN (!str) (some (r.lenV,.no))
 | .xR _ _ l=>dN (!str) (some (.int l.length,.no))
 | .str s=>dN str (some (.int s.length,.no))
 | .own o=>match h.get o with
  |some (.row _ k r x)=>dN (!str&& !(Nat.beq k fC)) (match x with|[]=>some (r.lenV,.no)|x=>some (.int (r.len+x.length),.no))
  |_=>none
 | .qw o lo hi=>dN (!str&&(h.get o).isSome) (some (.int (hi-lo:Nat),.no))
 |_=>none
def mxZ:V->V->xZ
 | .int a,.int b=>some (.int (max a b),.no)
 |_,_=>none
def mnZ:V->V->xZ
 | .int a,.int b=>some (.int (min a b),.no)
 |_,_=>none
def Aa(m:Fm):List X->Option (List V×Sd)
 |[]=>some ([],.no)
 |x::r=>match zL m x,Aa m r with
  |some v,some (l,s)=>match v.bare with|(u,s')=>some (u::l,s'.and s)
  |_,_=>none
def QA:List (Nat×Nat×X)->List V->List V->Option (List V)
 |[],[],z=>some z
 |(off,n,_)::ps,v::vs,z=>match v.cells with
  |some c=>dN (Nat.beq c.length n&&Nat.ble (off+n) z.length) (QA ps vs (z.take off++c++z.drop (off+n)))
  |none=>none
 |_,_,_=>none
def Ac(h:Hz):List V->Bool
 |[]=>true
 |v::r=>v.kG h&&Ac h r
def mkZ(m:Fm)(h:Hz)(z:List T)(ps:List (Nat×Nat×X)):xZ :=
 match Aa m (ps.map fun p=>p.2.2) with
 |some (vs,s)=>match QA ps vs (VL z) with
  |some l=>dN (Ac h vs) (some (.agg l,s))
  |none=>none
 |none=>none
def Iu(k:Nat):List V->Bool
 |[]=>true
 |v::r=>(match v.kd with|some k'=>Nat.beq k' k|none=>false)&&Iu k r
def VO(n:Nat):List (Nat×X)->List V->List V->Option (List V)
 |[],[],z=>some z
 |(i,_)::ps,v::vs,z=>dN (Nat.blt i n) (VO n ps vs (z.set i v))
 |_,_,_=>none
def msZ(m:Fm)(h:Hz)(k:Nat)(z:T)(n:Nat)(ps:List (Nat×X)):xZ :=
 match Aa m (ps.map fun p=>p.2) with
 |some (vs,s)=>match VO n ps vs (List.replicate n (zT z)) with
  |some l=>dN ((z.kd==k)&&z.free&&Iu k vs&&Ac h vs&&V.dB vs&&Nat.ble (n*aZ k) 16777216&&Nat.blt 0 (aZ k))
    (match Rw.VL l with
    |some r=>some (.row k true r,s)
    |none=>some (.xR k true l,s))
  |none=>none
 |none=>none
def Y7(k k':Nat):Rw->Bool
 | .nil=>true
 |_=>Nat.beq k' k
def He(m:Fm):Option X->Option (Option V×Sd)
 |none=>some (none,.no)
 |some x=>match zL m x with
  |some v=>match v.bare with|(u,s)=>some (some u,s)
  |none=>none
def VP(k k':Nat)(f:Bool)(r:Rw):Option V->Option V->Option V->xZ
 |none,none,none=>dN (Y7 k k' r) (some (.row k f r,.no))
 |some (.int a),none,none=>dN (Y7 k k' r) (some (.row k f (r.drop a.toNat),.yes (r.lT a)))
 |none,some (.int b),none=>dN (Y7 k k' r) (some (.row k (f&&decide (b=r.len)) (r.take b.toNat),.yes (r.lT b)))
 |some (.int a),some (.int b),none=>dN (Y7 k k' r) (some (.row k false ((r.take b.toNat).drop a.toNat),.yes (0<=a/\a<=b/\r.lT b)))
 |none,some (.int b),some (.int c)=>dN (Y7 k k' r) (some (.row k (decide (b=c)) (r.take b.toNat),.yes (0<=b/\b<=c/\r.lT c)))
 |_,_,_=>none
def VQ(k i ko:Nat)(r:Rw):Option V->Option V->Option V->xZ
 |some (.int a),none,none=>dN (Nat.beq ko k) (some (.qw i a.toNat r.len,.yes (r.lT a)))
 |none,some (.int b),none=>dN (Nat.beq ko k) (some (.qw i 0 b.toNat,.yes (r.lT b)))
 |some (.int a),some (.int b),none=>dN (Nat.beq ko k) (some (.qw i a.toNat b.toNat,.yes (0<=a/\a<=b/\r.lT b)))
 |_,_,_=>none
def Py(k i ko:Nat)(r:Rw)(xs:List V):Option V->Option V->Option V->xZ
 |none,some (.int b),none=>dN (Nat.beq ko k) (some (.qw i 0 b.toNat,.yes (r.lT b)))
 |lo,hi,mx=>match xs with|[]=>VQ k i ko r lo hi mx|_=>none
def slZ(h:Hz)(x:Bool)(k:Nat)(v:V)(lo hi mx:Option V):xZ :=
 match v with
 | .row k' f r=>VP k k' f r lo hi mx
 | .own i=>bif x then(match h.get i with
  |some (.row _ ko r xs)=>Py k i ko r xs lo hi mx
  |_=>none) else none
 |_=>none
def slX(m:Fm)(h:Hz)(b:Bool)(k:Nat)(x:X)(lo hi mx:Option X):xZ :=
 KR m x fun v=>match He m lo,He m hi,He m mx with
  |some (lo,s1),some (hi,s2),some (mx,s3)=>match slZ h b k v lo hi mx with
   |some (u,s)=>some (u,s1.and (s2.and (s3.and s)))
   |none=>none
  |_,_,_=>none
def ssZ(s:Str):Option V->Option V->xZ
 |some (.int a),none=>some (.str (s.drop a.toNat),.yes (0<=a/\a<=s.length))
 |none,some (.int b)=>some (.str (s.take b.toNat),.yes (0<=b/\b<=s.length))
 |some (.int a),some (.int b)=>some (.str ((s.take b.toNat).drop a.toNat),.yes (0<=a/\a<=b/\b<=s.length))
 |_,_=>none
def ssX(m:Fm)(x:X)(lo hi:Option X):xZ :=
 KR m x fun v=>match v,He m lo,He m hi with
  | .str s,some (lo,s1),some (hi,s2)=>match ssZ s lo hi with
   |some (u,s)=>some (u,s1.and (s2.and s))
   |none=>none
  |_,_,_=>none
def exZ(i:Nat):V->xZ
 | .gQ l=>match l[i]? with|some v=>some (v,.no)|none=>none
 |_=>none
def aat(ne:Bool)(n:Nat):V->V->xZ
 | .dat (.lin x),.dat (.lin y)=>dN (Nat.beq n 4) (some (.bool (bif ne then !(x==y) else x==y),.no))
 | .dat (.Pv x),.dat (.Pv y)=>dN (Nat.beq n 6) (some (.bool (bif ne then !(x==y) else x==y),.no))
 |_,_=>none
def vI(n:Int):List (Int×List Bool)->Option (List Bool)
 |[]=>none
 |(m,v)::r=>bif n==m then some v else vI n r
def mfZ(m:Fm)(h:Hz)(f:FuncId)(cap:List X):xZ :=
 match Aa m cap with
 |some (l,s)=>dN (Ac h l&&Iu 0 l&&Nat.blt f 4096) (some (.fn f l,s))
 |none=>none
def mbZ(f:FuncId):V->xZ
 | .agg l=>dN (Nat.blt f 4096) (some (.fn (f+4096) l,.no))
 | .dat d=>dN (Nat.blt f 4096) (some (.fn (f+4096) d.cells,.no))
 |_=>none
def aau:V->xZ
 | .row _ true r=>some (r.lenV,.no)
 |_=>none
def qz(m:Fm)(h:Hz):nM->xZ
 | .mv x=>match zL m x with|some v=>some (v,.no)|none=>none
 | .pick c a b=>KR m c fun c=>match c,zL m a,zL m b with
  | .bool t,some va,some vb=>VN t a b va.bare vb.bare
  |_,_,_=>none
 | .bin op x y=>Y5 m x y (aaq op)
 | .bb ne x y=>Y5 m x y fun x y=>match x,y with
  | .bool a,.bool b=>some (.bool (bif ne then !(a==b) else a==b),.no)
  |_,_=>none
 | .not x=>KR m x fun v=>match v with| .bool b=>some (.bool !b,.no)|_=>none
 | .conv .i64 x=>KR m x fun v=>match v with
  | .int n=>some (.int n,.yes (okI n))
  | .u8 n=>some (.int n,.yes (okI n))
  | .raw (.lit (.int .u64 n))=>some (.int n,.yes (okI n))
  |_=>none
 | .conv .u64 x=>KR m x fun v=>match v with
  | .int n=>some (.raw (.lit (.int .u64 n)),.yes (0<=n/\n<18446744073709551616))
  |_=>none
 | .fa off k x=>KR m x (faZ h off k)
 | .fv off k x=>KR m x (fvZ off k)
 | .ia k x i=>Y5 m x i (iaZ h k)
 | .ch x i=>Y5 m x i chZ
 | .ld k x=>KR m x (ldZ h k)
 | .nc x=>KR m x (ncZ h)
 | .len s x=>KR m x (aas h s)
 | .mx x y=>Y5 m x y mxZ
 | .mn x y=>Y5 m x y mnZ
 | .mk z ps=>mkZ m h z ps
 | .ms _ k z n ps=>msZ m h k z n ps
 | .sl k x lo hi mx=>slX m h false k x lo hi mx
 | .Qj k x lo hi mx=>slX m h true k x lo hi mx
 | .ss x lo hi=>ssX m x lo hi
 | .ex x i=>KR m x (exZ i)
 | .mf f cap=>mfZ m h f cap
 | .eqs ne n x y=>Y5 m x y (aat ne n)
 | .JV x=>KR m x aau
 | .mb f x=>KR m x (mbZ f)
 |_=>none
theorem Y8(b:ByteArray):eS b.data.toList= .lit (.string b):=by
 unfold eS bs; simp
mutual
theorem xA:(t:T)->(zT t).aG=t
 | .lit v=>by
  cases v with
  |int k n=>cases k<;>simp[zT,V.aG]
  |bool b=>simp[zT,V.aG]
  |string b=>simp only[zT,V.aG]; exact Y8 b
  |_=>simp[zT,V.aG]
 | .agg l=>by simp only[zT,V.aG]; rw[zy l]
 | .sl k f l=>by cases l<;>simp[zT,V.aG,Rw.aT]
 | .ref k t=>by simp[zT,V.aG]
 | .own i=>by simp[zT,V.aG]
 | .ptr i j k=>by simp[zT,V.aG]
 | .qw i j k=>by simp[zT,V.aG]
 | .fn f l=>by simp only[zT,V.aG]; rw[zy l]
 | .gQ l=>by simp[zT,V.aG]
 | .any=>by simp[zT,V.aG]
theorem zy:(l:List T)->V.aT (VL l)=l
 |[]=>rfl
 |t::r=>by simp only[VL,V.aT]; rw[xA t,zy r]
end
theorem nN(l:List V):V.aT l=l.map V.aG:=by
 induction l with
 |nil=>rfl
 |cons v r ih=>simp[V.aT,ih]
theorem fQ(l:List V):(V.aT l).length=l.length:=by rw[nN]; simp
theorem xB(a b:List V):V.aT (a++b)=V.aT a++V.aT b:=by simp[nN]
theorem Hf(a:List V)(n:Nat):V.aT (a.take n)=(V.aT a).take n:=by simp[nN]
theorem Hg(a:List V)(n:Nat):V.aT (a.drop n)=(V.aT a).drop n:=by simp[nN]
def Rp(m:Fm)(fr:List T):Prop:= ∀ i v,m.get i=some v->fr[i]? =some v.aG
theorem Rp.getD{m:Fm}{fr:List T}(R:Rp m fr){i:Nat}{v:V}{d:T}(h:m.get i=some v):fr.getD i d=v.aG:=by
 rw[List.getD_eq_getElem?_getD,R i v h]; rfl
theorem Rp.ev{m:Fm}{s:AS}(R:Rp m s.fr){x:X}{v:V}(h:zL m x=some v):s.ev x=v.aG:=by
 cases x with
 |t n=>exact R.getD h
 |c t=>simp only[zL,Option.some.injEq] at h; subst h; exact(xA t).symm
theorem jm{v u:V}{s:Sd}(h:v.bare=(u,s))(hs:s.holds):v.aG=u.aG:=by
 unfold V.bare at h
 split at h
 ·cases h; simp only[Sd.holds] at hs; simp[V.aG,hs]
 ·cases h; rfl
theorem Sd.mQ{a b:Sd}:(a.and b).holds↔a.holds/\b.holds:=by cases a<;>cases b<;>simp[Sd.and,Sd.holds]
theorem Sd.Jq{t b:Bool}{s:Sd}:(s.imp t b).holds↔(t=b->s.holds):=by cases s<;>simp[Sd.imp,Sd.holds]
theorem jX{m:Fm}{s:AS}(R:Rp m s.fr){x:X}{f:V->xZ}{r:V}{sd:Sd}(h:KR m x f=some (r,sd))(hs:sd.holds): ∃ u s',f u=some (r,s')/\s'.holds/\s.ev x=u.aG:=by
 unfold KR at h
 split at h
 ·rename_i v hv
  split at h
  rename_i u s0 hb
  split at h
  ·rename_i r' s' hf
   cases h
   rw[Sd.mQ] at hs
   exact⟨u,s',hf,hs.2,by rw[R.ev hv,jm hb hs.1]⟩
  ·cases h
 ·cases h
theorem xC{m:Fm}{s:AS}(R:Rp m s.fr){x y:X}{f:V->V->xZ}{r:V}{sd:Sd}(h:Y5 m x y f=some (r,sd))(hs:sd.holds): ∃ u v s',f u v=some (r,s')/\s'.holds/\s.ev x=u.aG/\s.ev y=v.aG:=by
 obtain⟨u,s',h1,h2,h3⟩:=jX R h hs
 obtain⟨v,s'',h4,h5,h6⟩:=jX R h1 h2
 exact⟨u,v,s'',h4,h5,h3,h6⟩
theorem aS{α:Type}{b:Bool}{x:Option α}{y:α}(h:dN b x=some y):b=true/\x=some y:=by
 cases b<;>simp[dN] at h; exact⟨rfl,h⟩
theorem abM{n:Int}(h1:0<=n)(h2:n<18446744073709551616):IntKind.u64.wrap n=n:=by
 have e:IntKind.u64.wrap n=(if(false&&decide (n % 18446744073709551616>=9223372036854775808))=true then n % 18446744073709551616-18446744073709551616 else n % 18446744073709551616):=rfl
 rw[e]
 simp only[Bool.false_and,Bool.false_eq_true,if_false]
 omega
theorem QB{n:Int}(h:okI n):IntKind.i64.wrap n=n:=wrap64 h.1 h.2
theorem Rw.eG(r:Rw):r.aT.length=r.len:=by cases r<;>simp[Rw.aT,Rw.len]
theorem Rw.KC(r:Rw):r.lenV= .int r.len:=by cases r<;>rfl
theorem Rw.CP{n:Int}{r:Rw}:r.rng n↔(0<=n/\n<r.len):=by cases r<;>simp[Rw.rng,Rw.len]<;>omega
theorem Rw.rC{n:Int}{r:Rw}:r.lT n↔(0<=n/\n<=r.len):=by cases r<;>simp[Rw.lT,Rw.len]<;>omega
theorem getD_map'{α:Type}{f:α->T}{l:List α}{i:Nat}{d:α}(h:i<l.length):(l.map f).getD i .any=f (l.getD i d):=by
 simp[List.getD_eq_getElem?_getD,h]
theorem Rw.KD{r:Rw}{i:Nat}(h:i<r.len):r.aT.getD i .any=(r.get i).aG:=by
 cases r<;>simp only[Rw.len] at h<;>simp only[Rw.aT,Rw.get,V.aG,Dat.aG,Rw.aT]<;>first|exact getD_map' h|omega
theorem Rw.CQ(r:Rw)(n:Nat):(r.take n).aT=r.aT.take n:=by cases r<;>simp[Rw.take,Rw.aT]
theorem Rw.Nb(r:Rw)(n:Nat):(r.drop n).aT=r.aT.drop n:=by cases r<;>simp[Rw.drop,Rw.aT]
theorem Rw.KE{a b c:Rw}(h:a.app b=some c):c.aT=a.aT++b.aT:=by
 unfold Rw.app at h
 split at h<;>first|(cases h; done)|(cases h; simp[Rw.aT])
theorem V.Yb{v:V}{r:Rw}(h:v.one=some r):r.aT=[v.aG]:=by
 unfold V.one at h
 split at h<;>first|(cases h; done)|(cases h; simp[Rw.aT,V.aG,V.aT,Dat.aG,rQ,VK,nK])
theorem Rw.zy: ∀ {l:List V} {r:Rw},Rw.VL l=some r->r.aT=V.aT l:=by
 intro l
 induction l with
 |nil=>intro r h; cases h; rfl
 |cons v l ih =>
  intro r h
  simp only[Rw.VL] at h
  split at h
  ·rename_i a b h1 h2
   rw[Rw.KE h,V.Yb h1,ih h2]; rfl
  ·cases h
theorem V.KF{v:V}{k:Nat}(h:v.kd=some k):v.aG.kd=k:=by
 cases v with
 |dat d=>cases h; exact Dat.aap d
 |_=>simp only[V.kd,Option.some.injEq,reduceCtorEq] at h<;>subst h<;>simp[V.aG,T.kd,eS,fQ]
theorem V.D8{v:V}{l:List V}(h:v.cells=some l):v.aG.cells=V.aT l:=by
 cases v<;>simp only[V.cells,Option.some.injEq,reduceCtorEq] at h<;>subst h<;>simp[V.aG,Dat.D7,T.cells,eS,V.aT]
theorem Hz.wF{h:Hz}{i:Nat}:(h.aj i).isSome=(h.get i).isSome:=by simp[Hz.aj]
theorem V.wG{h:Hz}{v:V}(hv:v.kG h=true):v.aG.kG h.aj=true:=by
 cases v<;>simp only[V.kG,Bool.false_eq_true] at hv<;>simp[V.aG,T.kG,T.vS,eS,Value.oneCell',Hz.wF,hv]
 rename_i d
 cases d<;>rfl
theorem V.VR{h:Hz}{v:V}(hv:v.kG h=true)(hk:v.kd=some 0):v.aG.vS h.aj=true:=by
 cases v<;>simp only[V.kG,Bool.false_eq_true] at hv<;>simp only[V.kd,Option.some.injEq,Nat.succ_ne_zero] at hk<;>simp[V.aG,T.vS,eS,Value.oneCell',Hz.wF,hv]
 rename_i d
 cases d<;>cases hk
theorem Dat.free(d:Dat):d.aG.free=true:=by cases d<;>rfl
mutual
theorem V.lQ:(v:V)->v.free=true->v.aG.free=true
 | .int _,_=>by simp[V.aG,T.free]
 | .bool _,_=>by simp[V.aG,T.free]
 | .u8 _,_=>by simp[V.aG,T.free]
 | .str _,_=>by simp[V.aG,T.free,eS]
 | .dat d,_=>by simp only[V.aG]; exact d.free
 | .agg l,h=>by simp only[V.aG,T.free]; simp only[V.free] at h; exact V.gV l h
 | .row _ _ _,_=>by simp[V.aG,T.free]
 | .xR _ _ _,_=>by simp[V.aG,T.free]
 | .ref _ _,_=>by simp[V.aG,T.free]
 | .own _,h=>by simp[V.free] at h
 | .ptr _ _ _,h=>by simp[V.free] at h
 | .qw _ _ _,h=>by simp[V.free] at h
 | .fn _ l,h=>by simp only[V.aG,T.free]; simp only[V.free] at h; exact V.gV l h
 | .gQ l,h=>by simp only[V.aG,T.free]; simp only[V.free] at h; exact V.gV l h
 | .cnd _ _,h=>by simp[V.free] at h
 | .raw t,h=>by simp only[V.aG]; simpa only[V.free] using h
theorem V.gV:(l:List V)->V.dB l=true->T.dB (V.aT l)=true
 |[],_=>by simp[V.aT,T.dB]
 |v::r,h=>by
  simp only[V.dB,Bool.and_eq_true] at h
  simp only[V.aT,T.dB,Bool.and_eq_true]
  exact⟨V.lQ v h.1,V.gV r h.2⟩
end
theorem yP{l:List V}{i:Nat}{u:V}(h:l[i]? =some u):(V.aT l).getD i .any=u.aG:=by
 rw[nN,List.getD_eq_getElem?_getD,List.getElem?_map,h]; rfl
theorem V.CS{off k:Nat}{v u:V}(h:v.part off k=some u):v.aG.part off k=u.aG:=by
 unfold V.part at h
 split at h
 ·simp only[V.aG,Dat.D7,T.part,T.cells]; exact yP h
 ·simp only[V.aG,T.part,T.cells]; exact yP h
 ·rename_i k x
  cases hb:(Nat.beq off 2)&&(Nat.beq k 4) with
  |false=>rw[hb] at h; cases h
  |true =>
   rw[hb] at h
   simp only[Bool.and_eq_true,Nat.beq_eq] at hb
   obtain⟨rfl,rfl⟩:=hb
   cases h; rfl
 ·cases h
  simp only[V.aG,T.part,T.cells,Hf,Hg]
 ·cases h
theorem iV{a b:Nat}(h:Nat.beq a b=true):a=b:=Nat.eq_of_beq_eq_true h
section
variable {m:Fm} {h:Hz} {s:AS}
def Ok(s:AS)(op:nM)(v:V):Prop:=qc s op/\qt s op=v.aG
theorem Yc{op:BinOp}{x y:X}{u v r:V}{sd:Sd}(q:aaq op u v=some (r,sd))(hs:sd.holds)(h1:s.ev x=u.aG)(h2:s.ev y=v.aG):Ok s (.bin op x y) r:=by
 unfold Ok; simp only[qc,qt]; rw[h1,h2]
 unfold aaq at q
 split at q
 ·rename_i a b
  split at q<;>first|(cases q; done)|(cases q; simp only[Sd.holds] at hs; simp[V.aG,BP,YU,QB,hs])
 ·split at q<;>first|(cases q; done)|(cases q; simp[V.aG,BP,YU])
 ·split at q
  ·cases q; simp[V.aG,BP,eS,zq]
  ·cases q; simp[V.aG,BP,eS,zq]
  ·rename_i a b _
   cases q
   simp only[Sd.holds] at hs
   have hsz:(((bs a).size+(bs b).size:Nat):Int)<=9223372036854775807:=by
    have e1:(bs a).size=a.length:=by simp[bs,ByteArray.size]
    have e2:(bs b).size=b.length:=by simp[bs,ByteArray.size]
    rw[e1,e2]; exact Int.ofNat_le.2 hs
   have hap:bs a++bs b=bs (a++b):=by apply ByteArray.ext; simp[bs]
   have hsz2:((bs a).size:Int)+(bs b).size<=9223372036854775807:=by omega
   simp[V.aG,BP,eS,hsz2,hap]
  ·cases q
 ·split at q
  ·cases q
   simp only[Sd.holds] at hs
   refine⟨?_,?_⟩
   ·simp only[V.aG,BP,hs,decide_true,cond_true,Option.isSome]
   ·simp only[V.aG,BP,hs,decide_true,cond_true]; rfl
  ·cases q; simp[V.aG,BP,YU]
  ·cases q; simp[V.aG,BP,YU]
  ·cases q
 ·cases q
theorem Pz{x:X}(hx:zx x=true):x= .c (.lit (.bool true)):=by
 unfold zx at hx
 split at hx
 ·rfl
 ·cases hx
theorem Nc{x:X}(hx:wE x=true):x= .c (.lit (.bool false)):=by
 unfold wE at hx
 split at hx
 ·rfl
 ·cases hx
theorem VT{c xa xb:X}{t:Bool}{va vb r:V}{sd:Sd}(R:Rp m s.fr)(ha:zL m xa=some va)(hb:zL m xb=some vb)(q:VN t xa xb va.bare vb.bare=some (r,sd))(hs:sd.holds)(hc:s.ev c= .lit (.bool t)):Ok s (.pick c xa xb) r:=by
 unfold Ok; simp only[qc,qt]; rw[hc]
 refine⟨rfl,?_⟩
 unfold VN at q
 split at q
 rename_i a sa b sb ea eb
 split at q
 ·rename_i v hp
  cases q
  rw[Sd.mQ,Sd.Jq,Sd.Jq] at hs
  have h1:t=true->s.ev xa=a.aG:=fun e=>by rw[R.ev ha,jm ea (hs.1 e)]
  have h2:t=false->s.ev xb=b.aG:=fun e=>by rw[R.ev hb,jm eb (hs.2 e)]
  unfold Y6 at hp
  split at hp
  ·rename_i x y
   have hp':r= .bool (bif zx xa then t||y else bif wE xb then t&&x else bif t then x else y):=by
    cases e1:zx xa<;>cases e2:wE xb<;>simp[e1,e2] at hp ⊢ <;>exact hp.symm
   subst hp'
   have key:yC (.lit (.bool t)) (s.ev xa) (s.ev xb)= .lit (.bool (bif t then x else y)):=by
    cases t with
    |true =>
     rw[h1 rfl]; simp only[V.aG,yC]
     split<;>simp_all
    |false =>
     rw[h2 rfl]; simp only[V.aG,yC]
     split<;>simp_all
   rw[key]
   simp only[V.aG]
   congr 2
   cases e1:zx xa with
   |true =>
    have:=Pz e1; subst this
    simp only[zL,Option.some.injEq] at ha; subst ha
    simp only[zT,V.bare,Prod.mk.injEq] at ea
    have:=ea.1; cases this
    cases t<;>rfl
   |false =>
    cases e2:wE xb with
    |true =>
     have:=Nc e2; subst this
     simp only[zL,Option.some.injEq] at hb; subst hb
     simp only[zT,V.bare,Prod.mk.injEq] at eb
     have:=eb.1; cases this
     cases t<;>simp
    |false=>rfl
  ·cases hp
   cases t with
   |true=>rw[h1 rfl]; simp only[V.aG,yC,cond_true]
   |false=>rw[h2 rfl]; simp only[V.aG,yC,cond_false]; split<;>simp_all
  ·cases hp
   cases t with
   |true=>rw[h1 rfl]; simp only[V.aG,yC,cond_true,eS]
   |false=>rw[h2 rfl]; simp only[V.aG,yC,cond_false,eS]; split<;>simp_all
  ·cases hp
 ·cases q
theorem PD{k:Nat}{p:Option V}{r:V}{sd:Sd}(q:V.Px k p=some (r,sd)): ∃ u,p=some u/\r= .ref k u:=by
 unfold V.Px at q
 split at q
 ·cases q; exact⟨_,rfl,rfl⟩
 ·cases q
theorem ED{p:Option V}{r:V}{sd:Sd}(q:V.E9 p=some (r,sd)):p=some r:=by
 unfold V.E9 at q
 split at q
 ·cases q; rfl
 ·cases q
theorem VU{k:Nat}(h:(!(Nat.beq k 0))=true):(!(k==0))=true:=by
 cases k<;>simp_all
theorem aav(hh:s.hp=h.aj){off k:Nat}{x:X}{u r:V}{sd:Sd}(q:faZ h off k u=some (r,sd))(h1:s.ev x=u.aG):Ok s (.fa off k x) r:=by
 unfold Ok; simp only[qc,qt]; rw[h1]
 unfold faZ at q
 split at q
 ·obtain⟨g,q⟩:=aS q
  obtain⟨u,e,rfl⟩:=PD q
  simp only[Bool.and_eq_true] at g
  simp only[V.aG,V.CS e,Bool.and_eq_true]
  exact⟨⟨VU g.1,g.2⟩,trivial⟩
 ·obtain⟨g,q⟩:=aS q
  cases q
  simp only[V.aG,hh,Hz.wF,g,and_self]
 ·cases q
theorem aaw{off k:Nat}{x:X}{u r:V}{sd:Sd}(q:fvZ off k u=some (r,sd))(h1:s.ev x=u.aG):Ok s (.fv off k x) r:=by
 unfold Ok; simp only[qc,qt]; rw[h1]
 unfold fvZ at q
 split at q
 ·rename_i kt hk
  obtain⟨g,q⟩:=aS q
  rw[V.KF hk,V.CS (ED q)]
  simp only[Bool.and_eq_true] at g ⊢
  exact⟨⟨VU g.1,g.2⟩,trivial⟩
 ·cases q
theorem aH{i:Nat}{o:OV}(e:h.get i=some o):h.aj i=some o.aF:=by simp[Hz.aj,e]
theorem Yd: ∀ {l:List V} {i:Nat} {v:V},aar l i=some v->i<l.length/\(V.aT l).getD i .any=v.aG:=by
 intro l
 induction l with
 |nil=>intro i v h; cases h
 |cons u r ih =>
  intro i v h
  cases i with
  |zero=>cases h; exact⟨Nat.succ_pos _,rfl⟩
  |succ i =>
   obtain⟨a,b⟩:=ih h
   exact⟨Nat.succ_lt_succ a,by simpa [V.aT] using b⟩
theorem aax(hh:s.hp=h.aj){k:Nat}{x i:X}{u v r:V}{sd:Sd}(q:iaZ h k u v=some (r,sd))(hs:sd.holds)(h1:s.ev x=u.aG)(h2:s.ev i=v.aG):Ok s (.ia k x i) r:=by
 unfold Ok; simp only[qc,qt]; rw[h1,h2]
 unfold iaZ at q
 split at q
 ·rename_i k' f l n
  split at q
  ·rename_i v hv
   obtain⟨g,q⟩:=aS q
   cases q
   have:=iV g; subst this
   simp only[Sd.holds] at hs
   obtain⟨a,b⟩:=Yd hv
   simp only[V.aG,XJ,fQ]
   exact⟨⟨trivial,hs,by omega⟩,by rw[b]⟩
  ·cases q
 ·rename_i k' f w n
  obtain⟨g,q⟩:=aS q
  cases q
  have:=iV g; subst this
  simp only[Sd.holds,Rw.CP] at hs
  simp only[V.aG,XJ,Rw.eG]
  refine⟨⟨trivial,hs⟩,?_⟩
  rw[Rw.KD (by omega)]
 ·rename_i o n
  split at q
  ·rename_i ty k' w e
   obtain⟨g,q⟩:=aS q
   cases q
   have:=iV g; subst this
   simp only[Sd.holds,Rw.CP] at hs
   simp only[V.aG,hh,aH e,OV.aF,V.aT,List.append_nil,XJ,Rw.eG]
   exact⟨⟨trivial,hs⟩,trivial⟩
  ·cases q
 ·rename_i o lo hi n
  split at q
  ·rename_i ty k' w e
   obtain⟨g,q⟩:=aS q
   cases q
   have:=iV g; subst this
   simp only[Sd.holds] at hs
   simp only[V.aG,hh,aH e,OV.aF,XJ]
   exact⟨⟨trivial,hs⟩,trivial⟩
  ·cases q
 ·cases q
theorem aay{x i:X}{u v r:V}{sd:Sd}(q:chZ u v=some (r,sd))(hs:sd.holds)(h1:s.ev x=u.aG)(h2:s.ev i=v.aG):Ok s (.ch x i) r:=by
 unfold Ok; simp only[qc,qt]; rw[h1,h2]
 unfold chZ at q
 split at q
 ·cases q
  simp only[Sd.holds] at hs
  simp only[V.aG,eS,XJ,zu,aam]
  exact⟨hs,trivial⟩
 ·cases q
theorem VW(hh:s.hp=h.aj){k:Nat}{x:X}{u r:V}{sd:Sd}(q:ldZ h k u=some (r,sd))(hs:sd.holds)(h1:s.ev x=u.aG):Ok s (.ld k x) r:=by
 unfold Ok; simp only[qc,qt]; rw[h1]
 unfold ldZ at q
 split at q
 ·obtain⟨g,q⟩:=aS q
  cases q
  simp only[Bool.and_eq_true] at g
  have:=iV g.1; subst this
  simp[V.aG,g.2]
 ·rename_i i j off
  split at q
  ·rename_i ty ko v e
   simp only[V.aG,hh,aH e,OV.aF]
   unfold ldB at q
   cases hj:Nat.beq j 0 with
   |false=>rw[hj] at q; cases q
   |true =>
    have:=iV hj; subst this
    rw[hj] at q
    simp only[cond_true] at q
    cases hb:(Nat.beq off 0&&Nat.beq ko k) with
    |true =>
     rw[hb] at q; cases q
     simp only[Bool.and_eq_true] at hb
     have e1:=iV hb.1; have e2:=iV hb.2; subst e1; subst e2
     simp
    |false =>
     rw[hb] at q
     simp only[cond_false] at q
     obtain⟨g,q⟩:=aS q
     have hb':(off==0&&ko==k)=false:=by
      rw[Bool.and_eq_false_iff] at hb ⊢
      rcases hb with hb|hb
      ·left; simpa using Nat.ne_of_beq_eq_false hb
      ·right; simpa using Nat.ne_of_beq_eq_false hb
     simp only[hb',cond_false,Bool.false_or,List.getD_cons_zero,V.CS (ED q),List.length_cons,List.length_nil]
     simp only[Bool.and_eq_true] at g ⊢
     exact⟨⟨by omega,VU g.1,g.2⟩,trivial⟩
  ·rename_i ty ko w e
   simp only[V.aG,hh,aH e,OV.aF,V.aT,List.append_nil]
   unfold ldR at q
   cases hb:(Nat.beq off 0&&Nat.beq ko k) with
   |true =>
    rw[hb] at q; cases q
    simp only[Bool.and_eq_true] at hb
    have e1:=iV hb.1; have e2:=iV hb.2; subst e1; subst e2
    simp only[Sd.holds,Rw.CP] at hs
    have hlt:j<w.len:=by omega
    simp only[BEq.rfl,Bool.and_self,Bool.true_or,cond_true,Rw.eG,Rw.KD hlt]
    exact⟨⟨hlt,trivial⟩,trivial⟩
   |false =>
    rw[hb] at q
    simp only[cond_false] at q
    split at q
    ·rename_i u hu
     obtain⟨g,q⟩:=aS q
     cases q
     have hb':(off==0&&ko==k)=false:=by
      rw[Bool.and_eq_false_iff] at hb ⊢
      rcases hb with hb|hb
      ·left; simpa using Nat.ne_of_beq_eq_false hb
      ·right; simpa using Nat.ne_of_beq_eq_false hb
     simp only[Sd.holds,Rw.CP] at hs
     have hlt:j<w.len:=by omega
     simp only[hb',cond_false,Bool.false_or,Rw.eG,Rw.KD hlt,V.CS hu]
     simp only[Bool.and_eq_true] at g ⊢
     exact⟨⟨hlt,VU g.1,g.2⟩,trivial⟩
    ·cases q
  ·cases q
 ·cases q
theorem aaz(hh:s.hp=h.aj){x:X}{u r:V}{sd:Sd}(q:ncZ h u=some (r,sd))(h1:s.ev x=u.aG):Ok s (.nc x) r:=by
 unfold Ok; simp only[qc,qt]; rw[h1]
 unfold ncZ at q
 split at q
 ·cases q; simp[V.aG]
 ·obtain⟨g,q⟩:=aS q; cases q; simp[V.aG,hh,Hz.wF,g]
 ·cases q; simp[V.aG]
 ·cases q
theorem Ye(hh:s.hp=h.aj){str:Bool}{x:X}{u r:V}{sd:Sd}(q:aas h str u=some (r,sd))(h1:s.ev x=u.aG):Ok s (.len str x) r:=by
 unfold Ok; simp only[qc,qt]; rw[h1]
 unfold aas at q
 split at q
 ·obtain⟨g,q⟩:=aS q; cases q
  simp only[Bool.not_eq_true'] at g
  simp[V.aG,Rw.KC,Rw.eG,g]
 ·obtain⟨g,q⟩:=aS q; cases q
  simp only[Bool.not_eq_true'] at g
  simp[V.aG,fQ,g]
 ·obtain⟨g,q⟩:=aS q; cases q
  simp[V.aG,eS,zu,g]
 ·rename_i o
  split at q
  ·rename_i ty k w y e
   obtain⟨g,q⟩:=aS q
   simp only[Bool.and_eq_true,Bool.not_eq_true'] at g
   have hk:k≠fC:=Nat.ne_of_beq_eq_false g.2
   split at q
   ·cases q
    simp only[V.aG,hh,aH e,OV.aF,V.aT,List.append_nil,Rw.KC,Rw.eG]
    exact⟨⟨g.1,hk⟩,trivial⟩
   ·cases q
    simp only[V.aG,hh,aH e,OV.aF,List.length_append,fQ,Rw.eG]
    exact⟨⟨g.1,hk⟩,by simp⟩
  ·cases q
 ·rename_i o lo hi
  obtain⟨g,q⟩:=aS q; cases q
  simp only[Bool.and_eq_true,Bool.not_eq_true'] at g
  simp[V.aG,hh,Hz.wF,g]
 ·cases q
theorem aaA{x y:X}{u v r:V}{sd:Sd}(q:mxZ u v=some (r,sd))(h1:s.ev x=u.aG)(h2:s.ev y=v.aG):Ok s (.mx x y) r:=by
 unfold Ok; simp only[qc,qt]; rw[h1,h2]
 unfold mxZ at q
 split at q
 ·rename_i a b
  cases q; simp only[V.aG,true_and]; congr 2; split<;>omega
 ·cases q
theorem aaB{x y:X}{u v r:V}{sd:Sd}(q:mnZ u v=some (r,sd))(h1:s.ev x=u.aG)(h2:s.ev y=v.aG):Ok s (.mn x y) r:=by
 unfold Ok; simp only[qc,qt]; rw[h1,h2]
 unfold mnZ at q
 split at q
 ·rename_i a b
  cases q; simp only[V.aG,true_and]; congr 2; split<;>omega
 ·cases q
theorem aaC{i:Nat}{x:X}{u r:V}{sd:Sd}(q:exZ i u=some (r,sd))(h1:s.ev x=u.aG):Ok s (.ex x i) r:=by
 unfold Ok; simp only[qc,qt]; rw[h1]
 unfold exZ at q
 split at q
 ·split at q
  ·rename_i l _ v e
   cases q
   have hi:i<l.length:=(List.getElem?_eq_some_iff.1 e).1
   simp only[V.aG,Nat.blt_eq,fQ,yP e]
   exact⟨hi,trivial⟩
  ·cases q
 ·cases q
theorem Yf{ne:Bool}{n:Nat}{x y:X}{u v r:V}{sd:Sd}(q:aat ne n u v=some (r,sd))(h1:s.ev x=u.aG)(h2:s.ev y=v.aG):Ok s (.eqs ne n x y) r:=by
 unfold Ok; simp only[qc,qt]; rw[h1,h2]
 unfold aat at q
 split at q
 ·rename_i x y
  obtain⟨g,q⟩:=aS q; cases q
  have:=iV g; subst this
  have e:qE [.int x.c,.int x.n,.int x.t,.int x.f] [.int y.c,.int y.n,.int y.t,.int y.f]=(x==y):=by
   cases x; cases y; simp[qE,BEq.beq]
  simp only[V.aG,Dat.aG,Po,e]
  exact⟨rfl,trivial⟩
 ·rename_i x y
  obtain⟨g,q⟩:=aS q; cases q
  have:=iV g; subst this
  have e:qE [.int x.message,.int x.CO,.int x.bound.c,.int x.bound.n,.int x.bound.t,.int x.bound.f] [.int y.message,.int y.CO,.int y.bound.c,.int y.bound.n,.int y.bound.t,.int y.bound.f]=(x==y):=by
   obtain⟨a,b,c,d,e,f⟩:=x; obtain⟨a',b',c',d',e',f'⟩:=y; simp[qE,BEq.beq]
  simp only[V.aG,Dat.aG,MX,e]
  exact⟨rfl,trivial⟩
 ·cases q
theorem Yg{x:X}{u r:V}{sd:Sd}(q:aau u=some (r,sd))(h1:s.ev x=u.aG):Ok s (.JV x) r:=by
 unfold Ok; simp only[qc,qt]; rw[h1]
 unfold aau at q
 split at q
 ·cases q; simp[V.aG,Rw.KC,Rw.eG]
 ·cases q
end
section
variable {m:Fm} {h:Hz} {s:AS}
theorem tZ(R:Rp m s.fr): ∀ {xs:List X} {l:List V} {sd:Sd},Aa m xs=some (l,sd)->sd.holds->xs.map s.ev=V.aT l:=by
 intro xs
 induction xs with
 |nil=>intro l sd q _; cases q; rfl
 |cons x r ih =>
  intro l sd q hs
  simp only[Aa] at q
  split at q
  ·rename_i v l' s' h1 h2
   cases q
   rw[Sd.mQ] at hs
   simp only[List.map_cons,V.aT]
   rw[R.ev h1,jm (v:=v) (u:=v.bare.1) (s:=v.bare.2) rfl hs.1,ih h2 hs.2]
  ·cases q
theorem D9: ∀ {l:List V},Ac h l=true->vT h.aj (V.aT l)=true:=by
 intro l
 induction l with
 |nil=>intro _; rfl
 |cons v r ih =>
  intro q
  simp only[Ac,Bool.and_eq_true] at q
  simp only[V.aT,vT,Bool.and_eq_true]
  exact⟨V.wG q.1,ih q.2⟩
theorem Fa{k:Nat}: ∀ {l:List V},Iu k l=true-> ∀ v∈l,v.kd=some k:=by
 intro l
 induction l with
 |nil=>intro _ v hv; cases hv
 |cons u r ih =>
  intro q v hv
  simp only[Iu,Bool.and_eq_true] at q
  rcases List.mem_cons.1 hv with rfl|hv
  ·have:=q.1
   split at this
   ·rename_i k' e; rw[e,iV this]
   ·cases this
  ·exact ih q.2 v hv
theorem Tv: ∀ {l:List V},Ac h l=true->Iu 0 l=true->wX h.aj (V.aT l)=true:=by
 intro l
 induction l with
 |nil=>intro _ _; rfl
 |cons v r ih =>
  intro q k
  have hk:=Fa k v (by simp)
  simp only[Ac,Iu,Bool.and_eq_true] at q k
  simp only[V.aT,wX,Bool.and_eq_true]
  exact⟨V.VR q.1 hk,ih q.2 k.2⟩
theorem VX: ∀ {ps:List (Nat×Nat×X)} {vs z l:List V},QA ps vs z=some l->(ps.map fun p=>s.ev p.2.2)=V.aT vs ->
  DJ (V.aT z) (ps.map fun p=>(p.1,p.2.1,s.ev p.2.2))=true/\Et (V.aT z) (ps.map fun p=>(p.1,p.2.1,s.ev p.2.2))=V.aT l:=by
 intro ps
 induction ps with
 |nil =>
  intro vs z l q he
  cases vs with
  |nil=>cases q; exact⟨rfl,rfl⟩
  |cons v vs=>simp[V.aT] at he
 |cons p ps ih =>
  intro vs z l q he
  obtain⟨off,n,x⟩:=p
  cases vs with
  |nil=>simp[V.aT] at he
  |cons v vs =>
   simp only[QA] at q
   split at q
   ·rename_i c hc
    obtain⟨g,q⟩:=aS q
    simp only[List.map_cons,V.aT,List.cons.injEq] at he
    simp only[Bool.and_eq_true] at g
    have e1:=iV g.1
    obtain⟨i1,i2⟩:=ih q he.2
    simp only[List.map_cons,DJ,Et,Bool.and_eq_true]
    have ec:(s.ev x).cells=V.aT c:=by rw[he.1]; exact V.D8 hc
    simp only[xB,Hf,Hg] at i1 i2
    simp only[ec,fQ]
    refine⟨⟨⟨by simpa using e1,g.2⟩,i1⟩,i2⟩
   ·cases q
theorem aaD(R:Rp m s.fr)(hh:s.hp=h.aj){z:List T}{ps:List (Nat×Nat×X)}{r:V}{sd:Sd}(q:mkZ m h z ps=some (r,sd))(hs:sd.holds):Ok s (.mk z ps) r:=by
 unfold mkZ at q
 split at q
 ·rename_i vs s' hb
  split at q
  ·rename_i l hl
   obtain⟨g,q⟩:=aS q
   cases q
   have he:=tZ R hb hs
   have he':(ps.map fun p=>s.ev p.2.2)=V.aT vs:=by rw[<- he]; simp
   obtain⟨i1,i2⟩:=VX hl he'
   rw[zy] at i1 i2
   unfold Ok; simp only[qc,qt]
   rw[i1,i2,he',hh,D9 g]
   exact⟨rfl,rfl⟩
  ·cases q
 ·cases q
theorem QC{k n:Nat}: ∀ {ps:List (Nat×X)} {vs z l:List V},VO n ps vs z=some l->(ps.map fun p=>s.ev p.2)=V.aT vs->Iu k vs=true ->
  Gj k n (ps.map fun p=>(p.1,s.ev p.2))=true/\o7 (V.aT z) (ps.map fun p=>(p.1,s.ev p.2))=V.aT l:=by
 intro ps
 induction ps with
 |nil =>
  intro vs z l q he _
  cases vs with
  |nil=>cases q; exact⟨rfl,rfl⟩
  |cons v vs=>simp[V.aT] at he
 |cons p ps ih =>
  intro vs z l q he hk
  obtain⟨i,x⟩:=p
  cases vs with
  |nil=>simp[V.aT] at he
  |cons v vs =>
   simp only[VO] at q
   obtain⟨g,q⟩:=aS q
   simp only[List.map_cons,V.aT,List.cons.injEq] at he
   have hkv:=Fa hk v (by simp)
   simp only[Iu,Bool.and_eq_true] at hk
   obtain⟨i1,i2⟩:=ih q he.2 hk.2
   have e:V.aT (z.set i v)=(V.aT z).set i (s.ev x):=by rw[he.1]; simp[nN,List.map_set]
   rw[e] at i2
   simp only[List.map_cons,Gj,o7,Bool.and_eq_true]
   refine⟨⟨⟨?_,g⟩,i1⟩,i2⟩
   rw[he.1,V.KF hkv]; simp
theorem aaE(R:Rp m s.fr)(hh:s.hp=h.aj){ty k:Nat}{z:T}{n:Nat}{ps:List (Nat×X)}{r:V}{sd:Sd}(q:msZ m h k z n ps=some (r,sd))(hs:sd.holds):Ok s (.ms ty k z n ps) r:=by
 unfold msZ at q
 split at q
 ·rename_i vs s' hb
  split at q
  ·rename_i l hl
   obtain⟨g,q⟩:=aS q
   have hs':s'.holds/\r.aG= .sl k true (V.aT l):=by
    split at q
    ·rename_i w hw
     cases q; exact⟨hs,by simp only[V.aG]; rw[Rw.zy hw]⟩
    ·cases q; exact⟨hs,rfl⟩
   have he:=tZ R hb hs'.1
   have he':(ps.map fun p=>s.ev p.2)=V.aT vs:=by rw[<- he]; simp
   simp only[Bool.and_eq_true] at g
   obtain⟨⟨⟨⟨⟨⟨g1,g2⟩,g3⟩,g4⟩,g5⟩,g6⟩,g7⟩:=g
   obtain⟨i1,i2⟩:=QC hl he' g3
   have e:V.aT (List.replicate n (zT z))=List.replicate n z:=by rw[nN,List.map_replicate,xA]
   rw[e] at i2
   unfold Ok; simp only[qc,qt]
   rw[i1,i2,he',hh,D9 g4,V.gV _ g5,g1,g2,g6,g7,hs'.2]
   exact⟨rfl,rfl⟩
  ·cases q
 ·cases q
theorem yQ(R:Rp m s.fr){x:Option X}{v:Option V}{sd:Sd}(q:He m x=some (v,sd))(hs:sd.holds):x.map s.ev=v.map V.aG:=by
 cases x with
 |none=>cases q; rfl
 |some x =>
  simp only[He] at q
  split at q
  ·rename_i u hu
   cases q
   simp only[Option.map_some]; rw[R.ev hu,jm (v:=u) (u:=u.bare.1) (s:=u.bare.2) rfl hs]
  ·cases q
theorem Ea{k k':Nat}{r:Rw}(g:Y7 k k' r=true):k'=k\/r.aT=[]:=by
 unfold Y7 at g
 split at g
 ·exact .inr rfl
 ·exact .inl (iV g)
theorem Nh{k k':Nat}{f:Bool}{w:Rw}{lo hi mx:Option V}{r:V}{sd:Sd}(q:VP k k' f w lo hi mx=some (r,sd))(hs:sd.holds) :
  Xd k (.sl k' f w.aT) (lo.map V.aG) (hi.map V.aG) (mx.map V.aG)/\Mc k (.sl k' f w.aT) (lo.map V.aG) (hi.map V.aG) (mx.map V.aG)=r.aG:=by
 unfold VP at q
 split at q
 ·obtain⟨g,q⟩:=aS q; cases q
  simp only[Option.map_none,Xd,Mc,V.aG]
  exact⟨Ea g,trivial⟩
 ·obtain⟨g,q⟩:=aS q; cases q
  simp only[Sd.holds,Rw.rC] at hs
  simp only[Option.map_none,Option.map_some,Xd,Mc,V.aG,Rw.Nb,Rw.eG]
  exact⟨⟨Ea g,hs⟩,trivial⟩
 ·obtain⟨g,q⟩:=aS q; cases q
  simp only[Sd.holds,Rw.rC] at hs
  simp only[Option.map_none,Option.map_some,Xd,Mc,V.aG,Rw.CQ,Rw.eG]
  exact⟨⟨Ea g,hs⟩,trivial⟩
 ·obtain⟨g,q⟩:=aS q; cases q
  simp only[Sd.holds,Rw.rC] at hs
  simp only[Option.map_none,Option.map_some,Xd,Mc,V.aG,Rw.CQ,Rw.Nb,Rw.eG]
  exact⟨⟨Ea g,hs.1,hs.2.1,hs.2.2.2⟩,trivial⟩
 ·obtain⟨g,q⟩:=aS q; cases q
  simp only[Sd.holds,Rw.rC] at hs
  simp only[Option.map_none,Option.map_some,Xd,Mc,V.aG,Rw.CQ,Rw.eG]
  exact⟨⟨Ea g,hs.1,hs.2.1,hs.2.2.2⟩,trivial⟩
 ·cases q
theorem VY{k i ty ko:Nat}{w:Rw}{lo hi mx:Option V}{r:V}{sd:Sd}(q:VQ k i ko w lo hi mx=some (r,sd))(hs:sd.holds) :
  BQ k ⟨ty,ko,w.aT⟩ (lo.map V.aG) (hi.map V.aG) (mx.map V.aG)/\xK i ⟨ty,ko,w.aT⟩ (lo.map V.aG) (hi.map V.aG) (mx.map V.aG)=r.aG:=by
 unfold VQ at q
 split at q
 ·obtain⟨g,q⟩:=aS q; cases q
  simp only[Sd.holds,Rw.rC] at hs
  simp only[Option.map_none,Option.map_some,BQ,xK,V.aG,Rw.eG]
  exact⟨⟨iV g,hs⟩,trivial⟩
 ·obtain⟨g,q⟩:=aS q; cases q
  simp only[Sd.holds,Rw.rC] at hs
  simp only[Option.map_none,Option.map_some,BQ,xK,V.aG,Rw.eG]
  exact⟨⟨iV g,hs⟩,trivial⟩
 ·obtain⟨g,q⟩:=aS q; cases q
  simp only[Sd.holds,Rw.rC] at hs
  simp only[Option.map_none,Option.map_some,BQ,xK,V.aG,Rw.eG]
  exact⟨⟨iV g,hs.1,hs.2.1,hs.2.2.2⟩,trivial⟩
 ·cases q
theorem Tz{k i ty ko:Nat}{w:Rw}{xs:List V}{lo hi mx:Option V}{r:V}{sd:Sd}(q:Py k i ko w xs lo hi mx=some (r,sd))(hs:sd.holds) :
  BQ k ⟨ty,ko,w.aT++V.aT xs⟩ (lo.map V.aG) (hi.map V.aG) (mx.map V.aG)/\xK i ⟨ty,ko,w.aT++V.aT xs⟩ (lo.map V.aG) (hi.map V.aG) (mx.map V.aG)=r.aG:=by
 unfold Py at q
 split at q
 ·obtain⟨g,q⟩:=aS q; cases q
  simp only[Sd.holds,Rw.rC] at hs
  simp only[Option.map_none,Option.map_some,BQ,xK,V.aG]
  refine⟨⟨iV g,hs.1,?_⟩,trivial⟩
  have:=hs.2
  simp only[List.length_append,Rw.eG]; omega
 ·split at q
  ·simp only[V.aT,List.append_nil]; exact VY q hs
  ·cases q
theorem QD(R:Rp m s.fr){b:Bool}{k:Nat}{x:X}{lo hi mx:Option X}{r:V}{sd:Sd}(q:slX m h b k x lo hi mx=some (r,sd))(hs:sd.holds) :
  ∃ v lo' hi' mx' s',slZ h b k v lo' hi' mx'=some (r,s')/\s'.holds/\s.ev x=v.aG/\lo.map s.ev=lo'.map V.aG/\hi.map s.ev=hi'.map V.aG/\mx.map s.ev=mx'.map V.aG:=by
 obtain⟨v,s',q,hs,hv⟩:=jX R q hs
 split at q
 ·rename_i lo' s1 hi' s2 mx' s3 e1 e2 e3
  split at q
  ·rename_i u s4 e4
   cases q
   rw[Sd.mQ,Sd.mQ,Sd.mQ] at hs
   exact⟨v,lo',hi',mx',s4,e4,hs.2.2.2,hv,yQ R e1 hs.1,yQ R e2 hs.2.1,yQ R e3 hs.2.2.1⟩
  ·cases q
 ·cases q
theorem abN(R:Rp m s.fr){k:Nat}{x:X}{lo hi mx:Option X}{r:V}{sd:Sd}(q:slX m h false k x lo hi mx=some (r,sd))(hs:sd.holds):Ok s (.sl k x lo hi mx) r:=by
 obtain⟨v,lo',hi',mx',s',q,hs,hv,e1,e2,e3⟩:=QD R q hs
 unfold Ok; simp only[qc,qt]; rw[hv,e1,e2,e3]
 unfold slZ at q
 split at q
 ·exact Nh q hs
 ·cases q
 ·cases q
theorem aaF(R:Rp m s.fr)(hh:s.hp=h.aj){k:Nat}{x:X}{lo hi mx:Option X}{r:V}{sd:Sd}(q:slX m h true k x lo hi mx=some (r,sd))(hs:sd.holds):Ok s (.Qj k x lo hi mx) r:=by
 obtain⟨v,lo',hi',mx',s',q,hs,hv,e1,e2,e3⟩:=QD R q hs
 unfold Ok; simp only[qc,qt]; rw[hv,e1,e2,e3]
 unfold slZ at q
 split at q
 ·exact Nh q hs
 ·simp only[cond_true] at q
  split at q
  ·rename_i i _ ty ko w xs e
   simp only[V.aG,hh,aH e,OV.aF]
   exact Tz q hs
  ·cases q
 ·cases q
theorem AZ{t:Str}{a b:Nat}(hab:a<=b)(_hb:b<=t.length):(bs t).extract a b=bs ((t.take b).drop a):=by
 apply ByteArray.ext
 have h1:((bs t).extract a b).data=(bs t).data.extract a b:=ByteArray.data_extract
 rw[h1]
 apply Array.ext'
 simp[bs,List.extract,List.take_drop]
 rw[show a+(b-a)=b by omega]
theorem abO(R:Rp m s.fr){x:X}{lo hi:Option X}{r:V}{sd:Sd}(q:ssX m x lo hi=some (r,sd))(hs:sd.holds):Ok s (.ss x lo hi) r:=by
 obtain⟨v,s',q,hs,hv⟩:=jX R q hs
 split at q
 ·rename_i t lo' s1 hi' s2 e1 e2
  split at q
  ·rename_i u s4 e4
   cases q
   rw[Sd.mQ,Sd.mQ] at hs
   have f1:=yQ R e1 hs.1
   have f2:=yQ R e2 hs.2.1
   unfold Ok; simp only[qc,qt]; rw[hv,f1,f2]
   have hs4:=hs.2.2
   unfold ssZ at e4
   split at e4
   ·cases e4
    simp only[Sd.holds] at hs4
    simp only[Option.map_none,Option.map_some,V.aG,eS,zu]
    refine⟨hs4,?_⟩
    rw[AZ (by omega) (Nat.le_refl _)]; simp
   ·cases e4
    simp only[Sd.holds] at hs4
    simp only[Option.map_none,Option.map_some,V.aG,eS,zu]
    refine⟨hs4,?_⟩
    rw[AZ (by omega) (by omega)]; simp
   ·cases e4
    simp only[Sd.holds] at hs4
    simp only[Option.map_some,V.aG,eS,zu]
    refine⟨hs4,?_⟩
    rw[AZ (by omega) (by omega)]
   ·cases e4
  ·cases q
 ·cases q
theorem aaG(R:Rp m s.fr)(hh:s.hp=h.aj){f:FuncId}{cap:List X}{r:V}{sd:Sd}(q:mfZ m h f cap=some (r,sd))(hs:sd.holds):Ok s (.mf f cap) r:=by
 unfold mfZ at q
 split at q
 ·rename_i l s' hb
  obtain⟨g,q⟩:=aS q
  cases q
  simp only[Bool.and_eq_true] at g
  unfold Ok; simp only[qc,qt]
  rw[tZ R hb hs,hh,Tv g.1.1 g.1.2,g.2]
  exact⟨rfl,rfl⟩
 ·cases q
theorem aaH{f:FuncId}{x:X}{v r:V}{sd:Sd}(q:mbZ f v=some (r,sd))(h1:s.ev x=v.aG):Ok s (.mb f x) r:=by
 unfold mbZ at q
 split at q
 ·obtain⟨g,q⟩:=aS q; cases q
  unfold Ok; simp only[qc,qt]; rw[h1]; exact⟨Nat.blt_eq.mp g,rfl⟩
 ·obtain⟨g,q⟩:=aS q; cases q
  rename_i d
  unfold Ok; simp only[qc,qt]; rw[h1]; simp only[V.aG]; rw[Dat.D7]; exact⟨Nat.blt_eq.mp g,rfl⟩
 ·cases q
theorem VZ(R:Rp m s.fr)(hh:s.hp=h.aj){op:nM}{r:V}{sd:Sd}(q:qz m h op=some (r,sd))(hs:sd.holds):dh op=true/\Ok s op r:=by
 unfold qz at q
 split at q
 ·split at q
  ·rename_i v e; cases q
   exact⟨rfl,trivial,R.ev e⟩
  ·cases q
 ·obtain⟨c,s',q,hs,hc⟩:=jX R q hs
  split at q
  ·rename_i t va vb e1 e2
   exact⟨rfl,VT R e1 e2 q hs hc⟩
  ·cases q
 ·obtain⟨u,v,s',q,hs,h1,h2⟩:=xC R q hs
  exact⟨rfl,Yc q hs h1 h2⟩
 ·obtain⟨u,v,s',q,hs,h1,h2⟩:=xC R q hs
  split at q
  ·cases q; refine⟨rfl,?_⟩; unfold Ok; simp only[qc,qt]; rw[h1,h2]; exact⟨rfl,rfl⟩
  ·cases q
 ·obtain⟨u,s',q,hs,h1⟩:=jX R q hs
  split at q
  ·cases q; refine⟨rfl,?_⟩; unfold Ok; simp only[qc,qt]; rw[h1]; exact⟨rfl,rfl⟩
  ·cases q
 ·obtain⟨u,s',q,hs,h1⟩:=jX R q hs
  split at q
  ·cases q; refine⟨rfl,?_⟩; unfold Ok; simp only[qc,qt]; rw[h1]; simp only[V.aG,true_and]; rw[QB hs]
  ·cases q; refine⟨rfl,?_⟩; unfold Ok; simp only[qc,qt]; rw[h1]; simp only[V.aG,true_and]; rw[QB hs]
  ·cases q; refine⟨rfl,?_⟩; unfold Ok; simp only[qc,qt]; rw[h1]; simp only[V.aG,true_and]; rw[QB hs]
  ·cases q
 ·obtain⟨u,s',q,hs,h1⟩:=jX R q hs
  split at q
  ·cases q; refine⟨rfl,?_⟩; unfold Ok; simp only[qc,qt]; rw[h1]; simp only[V.aG,true_and]; rw[abM hs.1 hs.2]
  ·cases q
 ·obtain⟨u,s',q,hs,h1⟩:=jX R q hs; exact⟨rfl,aav hh q h1⟩
 ·obtain⟨u,s',q,hs,h1⟩:=jX R q hs; exact⟨rfl,aaw q h1⟩
 ·obtain⟨u,v,s',q,hs,h1,h2⟩:=xC R q hs; exact⟨rfl,aax hh q hs h1 h2⟩
 ·obtain⟨u,v,s',q,hs,h1,h2⟩:=xC R q hs; exact⟨rfl,aay q hs h1 h2⟩
 ·obtain⟨u,s',q,hs,h1⟩:=jX R q hs; exact⟨rfl,VW hh q hs h1⟩
 ·obtain⟨u,s',q,hs,h1⟩:=jX R q hs; exact⟨rfl,aaz hh q h1⟩
 ·obtain⟨u,s',q,hs,h1⟩:=jX R q hs; exact⟨rfl,Ye hh q h1⟩
 ·obtain⟨u,v,s',q,hs,h1,h2⟩:=xC R q hs; exact⟨rfl,aaA q h1 h2⟩
 ·obtain⟨u,v,s',q,hs,h1,h2⟩:=xC R q hs; exact⟨rfl,aaB q h1 h2⟩
 ·exact⟨rfl,aaD R hh q hs⟩
 ·exact⟨rfl,aaE R hh q hs⟩
 ·exact⟨rfl,abN R q hs⟩
 ·exact⟨rfl,aaF R hh q hs⟩
 ·exact⟨rfl,abO R q hs⟩
 ·obtain⟨u,s',q,hs,h1⟩:=jX R q hs; exact⟨rfl,aaC q h1⟩
 ·exact⟨rfl,aaG R hh q hs⟩
 ·obtain⟨u,v,s',q,hs,h1,h2⟩:=xC R q hs; exact⟨rfl,Yf q h1 h2⟩
 ·obtain⟨u,s',q,hs,h1⟩:=jX R q hs; exact⟨rfl,Yg q h1⟩
 ·obtain⟨u,s',q,hs,h1⟩:=jX R q hs; exact⟨rfl,aaH q h1⟩
 ·cases q
end
structure ah(P:Program)(dr:Bool)(g:Option Bool)(f:FuncId)(args:List V)(h:Hz)(n:Nat)(K:V->Hz->Prop)(KW:Nat->V->Hz->Prop):Prop where
 ok:(match g with
  |none=>aK P f (V.aT args) h.aj n fun t hp=> ∃ v h',t=v.aG/\hp=h'.aj/\(dr=true->h'=h/\t.free=true)/\K v h'
  |some b=>(∃ v,(b=true->aK P f (V.aT args) h.aj n fun t hp=>t=v.aG/\hp=h.aj)/\v.free=true/\K v h) \/
   (dr=false/\(b=true->aK P f (V.aT args) h.aj n fun t hp=> ∃ v h',t=v.aG/\hp=h'.aj/\K v h')/\(b=false->K (.int 0) h))) \/
  (g=none/\dr=false/\ ∃ k,jL P f (V.aT args) h.aj n k fun t hp=> ∃ v h',t=v.aG/\hp=h'.aj/\KW k v h') \/
  (g=none/\dr=true/\h.get n=none/\aK P f (V.aT args) h.aj n fun t hp=> ∃ v o,t=v.aG/\hp=Hz.aj ((n,some o)::h)/\KW 0 v ((n,some o)::h))
def A8(dr fl:Bool)(a b c:Prop):Prop :=
 match dr with
 |false=>a
 |true=>match fl with
  |false=>b
  |true=>c
inductive UE(p a b:Prop):Prop where
 |mk:(p->a)->b->UE p a b
inductive ZA(o:Option (List Bool))(yes:List Bool->Prop)(no:Prop):Prop where
 |mk:(∀ l,o=some l->yes l)->(o=none->no)->ZA o yes no
def V.seq(v:V)(K:V->Prop):Prop :=
 match v with
 | .int n=>K (.int n)
 | .bool b=>K (.bool b)
 | .u8 n=>K (.u8 n)
 | .str s=>K (.str s)
 | .dat d=>K (.dat d)
 | .agg l=>K (.agg l)
 | .row k f r=>K (.row k f r)
 | .xR k f l=>K (.xR k f l)
 | .ref k v=>K (.ref k v)
 | .own i=>K (.own i)
 | .ptr i j o=>K (.ptr i j o)
 | .qw i a b=>K (.qw i a b)
 | .fn f l=>K (.fn f l)
 | .gQ l=>K (.gQ l)
 | .cnd b v=>K (.cnd b v)
 | .raw t=>K (.raw t)
theorem V.seq_eq(v:V)(K:V->Prop):v.seq K=K v:=by cases v<;>rfl
def iW(d:Option Nat)(v:V)(m:Fm):Fm :=
 match d with
 |some d=>(d,v)::m
 |none=>m
def qA:Option Bool->V->V
 |none,v=>v
 |some b,.cnd c v=>.cnd (b&&c) v
 |some b,v=>.cnd b v
theorem Eb(v:V):(qA (some true) v).aG=v.aG:=by cases v<;>rfl
theorem PE(v:V):(qA (some false) v).aG=T.un:=by cases v<;>rfl
def PG(m:Fm):Option (Nat×Bool)->Option (Option Bool)
 |none=>some none
 |some (g,w)=>match m.get g with
  |some (.bool b)=>some (some (bif w then b else !b))
  |some (.cnd c (.bool b))=>some (some (c&&(bif w then b else !b)))
  |_=>none
def ltX(nx:Nat)(m:Fm):List X->Bool
 |[]=>true
 |x::r=>(match zL m x with|some v=>T.lt nx v.aG|none=>false)&&ltX nx m r
def V3(nx:Nat)(m:Fm):nM->Bool
 | .st _ x _=>match zL m x with|some v=>T.newer nx v.aG|none=>false
 | .app _ _ _ x _=>match zL m x with|some v=>T.newer nx v.aG|none=>false
 | .L9 _ _ _=>false
 | .OL _ _ _=>false
 | .call _ _=>true
 | .oZ _ _=>true
 |op=>ltX nx m op.xs
def Yh(i:Nat)(m:Fm):List X->Bool
 |[]=>true
 |x::r=>(match zL m x with|some v=>T.ZL i v.aG|none=>false)&&Yh i m r
def neB(m:Fm)(xs:List X):List Nat->Bool
 |[]=>true
 |d::r=>(match m.get d with|some (.ptr i _ _)=>Yh i m xs|_=>false)&&neB m xs r
def Jr(nx:Nat)(o:aO)(m:Fm):Bool:=(!o.fl||V3 nx m o.op)&&neB m o.op.xs o.ne
def isZero:V->Bool
 | .int (.ofNat 0)=>true
 |_=>false
def Q7(n:Nat):T->Option Rw
 | .lit (.int .i64 z)=>some (.ints (List.replicate n z))
 | .lit (.bool z)=>some (.bools (List.replicate n z))
 | .lit (.string z)=>some (.strs (List.replicate n z.data.toList))
 |_=>none
def Rw.set(j:Nat)(v:V)(r:Rw):Option Rw :=
 match r,v with
 | .ints l,.int n=>some (.ints (l.set j n))
 | .bools l,.bool n=>some (.bools (l.set j n))
 | .strs l,.str n=>some (.strs (l.set j n))
 | .rules l,.dat (.rule n)=>some (.rules (l.set j n))
 | .clauses l,.dat (.clause n)=>some (.clauses (l.set j n))
 | .elems l,.dat (.elem n)=>some (.elems (l.set j n))
 | .kP l,.row 0 false (.ints n)=>some (.kP (l.set j n))
 |_,_=>none
def aaI(h:Hz)(k:Nat):V->Option (Rw×List V)
 | .row k' _ r=>dN (Y7 k k' r) (some (r,[]))
 | .xR k' _ l=>dN (Nat.beq k' k) (some (.nil,l))
 | .own o=>match h.get o with
  |some (.row _ ko r x)=>dN (Nat.beq ko k) (some (r,x))
  |_=>none
 |_=>none
def aaJ(r:Rw)(x:List V)(r':Rw)(x':List V):Option (Rw×List V) :=
 match x,r' with
 |[],r'=>match r.app r' with|some w=>some (w,x')|none=>none
 |x,.nil=>some (r,x++x')
 |_,_=>none
def lS(r:Rw)(x:List V):Nat :=
 match x with
 |[]=>r.len
 |x=>r.len+x.length
def mW(bytes:Nat)(a b:Nat):Prop:=(a+b)*bytes<=140737488355328/\a+b<=1152921504606846976
def setCells(v:V)(off:Nat)(u:V):Option V :=
 match v.cells,u.cells with
 |some l,some c=>some (.agg (l.take off++c++l.drop (off+c.length)))
 |_,_=>none
def KG:List V->(List V->Prop)->Prop
 |[],K=>K []
 |v::r,K=>KG r fun r'=>K (v::r')
def V.force(v:V)(K:V->Prop):Prop :=
 match v with
 | .agg l=>KG l fun l=>K (.agg l)
 |v=>K v
theorem TA: ∀ {l:List V} {K:List V->Prop},KG l K=K l:=by
 intro l
 induction l with
 |nil=>intro K; rfl
 |cons v r ih=>intro K; show KG r (fun r'=>K (v::r'))=_; rw[ih]
theorem V.force_eq(v:V)(K:V->Prop):v.force K=K v:=by
 cases v<;>first|rfl|exact TA
structure OE(c p a b:Prop):Prop where
 ok:(c\/b)/\p/\a
theorem OE.one{c p a b:Prop}(h:c/\p)(k:a):OE c p a b:=⟨.inl h.1,h.2,k⟩
theorem OE.both{c p a b:Prop}(h:p)(k:a)(l:b):OE c p a b:=⟨.inr l,h,k⟩
def Yi(dr:Bool)(d:Option Nat)(n:Nat)(m:Fm)(h:Hz)(K:Fm->Hz->Prop):nM->Prop
 | .box ty k x=>match zL m x with
  |some v=>match v.bare with
   |(v,s)=>bif Iu k [v]&&v.kG h&&xX k then s.vc none (K (iW d (.ptr n 0 0) m) ((n,some (.box ty k v))::h)) else False
  |none=>False
 | .al ty k z=>bif z.kd==k&&z.kG h.aj&&z.free&&xX k then K (iW d (.ptr n 0 0) m) ((n,some (.box ty k (zT z)))::h) else False
 | .make ty k bytes z x y=>match zL m x,zL m y with
  |some (.int a),some (.int b)=>bif z.kd==k&&z.kG h.aj&&z.free&&xX k then
    (match (bif isZero (.int a) then some .nil else Q7 a.toNat z) with
    |some r=>VC (0<=a/\a<=b/\b*bytes<=140737488355328/\b<=1152921504606846976) (K (iW d (.own n) m) ((n,some (.row ty k r []))::h))
    |none=>False) else False
  |_,_=>False
 | .st k x v=>match zL m x,zL m v with
  |some (.ptr i j off),some v=>match v.bare with
   |(v,s)=>bif Iu k [v]&&v.kG h then
    (match h.get i with
    |some (.box ty ko w)=>bif Nat.beq j 0 then
      (bif Nat.beq off 0&&Nat.beq ko k then s.vc none (K m ((i,some (.box ty ko v))::h))
      else bif !(Nat.beq ko 0)&&lX (aZ ko) off k then(match setCells w off v with
       |some w'=>w'.force fun w'=>s.vc none (K m ((i,some (.box ty ko w'))::h))
       |none=>False) else False) else False
    |some (.row ty ko r [])=>bif Nat.beq off 0&&Nat.beq ko k then(match r.set j v with
      |some r'=>s.vc none (VC (r.rng j) (K m ((i,some (.row ty ko r' []))::h)))
      |none=>False) else False
    |_=>False) else False
  |_,_=>False
 | .app ty k bytes x y=>match zL m x,zL m y with
  |some x,some y=>match aaI h k y with
   |some (r',x')=>(match x with
    | .row _ true .nil=>VC (mW bytes 0 (lS r' x')) (K (iW d (.own n) m) ((n,some (.row ty k r' x'))::h))
    | .row k' true r=>bif Nat.beq k' k then(match r.app r' with
     |some w=>OE (r.len=0\/0<lS r' x') (mW bytes r.len (lS r' x')) (K (iW d (.own n) m) ((n,some (.row ty k w x'))::h)) (dr=false/\K (iW d (.row k' true r) m) h)
     |none=>False) else False
    | .own i=>(match h.get i with
     |some (.row ty' ko r x)=>bif Nat.beq ko k&&Nat.beq ty' ty then(match aaJ r x r' x' with
      |some (w,z)=>VC (mW bytes (lS r x) (lS r' x')) (K (iW d (.own n) m) ((n,some (.row ty k w z))::(i,none)::h))
      |none=>False) else False
     |_=>False)
    |_=>False)
   |none=>False
  |_,_=>False
 | .OL k z x=>match zL m x with
  |some (.qw i lo hi)=>match h.get i with
   |some (.row ty ko r [])=>bif Nat.beq ko k&&z.kd==k&&z.kG h.aj&&z.free then
     VC (lo<=hi/\hi=r.len) (match d with
      |none=>K m ((i,some (.row ty ko (r.take lo) (List.replicate (hi-lo) (zT z))))::h)
      |some _=>K (iW d (.raw T.un) m) ((i,some (.row ty ko (r.take lo) (List.replicate (hi-lo) (zT z))))::h)) else False
   |_=>False
  |_=>False
 | .Bo ty k z nn ps=>match Aa m (ps.map fun p=>p.2) with
  |some (vs,s)=>match VO nn ps vs (List.replicate nn (zT z)) with
   |some l=>bif (z.kd==k)&&z.free&&Iu k vs&&Ac h vs&&Nat.ble (nn*aZ k) 16777216&&xX k then s.vc none (K (iW d (.own n) m) ((n,some (.row ty k .nil l))::h)) else False
   |none=>False
  |none=>False
 | .yB x=>match zL m x with
  |some (.row _ _ r)=>UE (r.len=0) (K (iW d (.bool true) m) h) (K (iW d (.bool false) m) h)
  |some (.own i)=>match h.get i with
   |some (.row _ ko r [])=>bif Nat.beq ko fC then False else UE (r.len=0) (K (iW d (.bool true) m) h) (K (iW d (.bool false) m) h)
   |_=>False
  |_=>False
 | .SA ty=>K (iW d (.own n) m) ((n,some (.map ty [] []))::h)
 | .XI z x i=>match zL m x,zL m i with
  |some (.own o),some (.int k)=>match h.get o with
   |some (.map _ es [])=>ZA (vI k es) (fun l=>K (iW d (.gQ [.row 0 false (.bools l),.bool true]) m) h) (K (iW d (.gQ [zT z,.bool false]) m) h)
   |_=>False
  |_,_=>False
 | .L9 x i v=>match zL m x,zL m i,zL m v with
  |some (.own o),some (.int k),some v=>match v.bare with
   |(v,s)=>match h.get o with
    |some (.map ty es [])=>bif Iu 0 [v]&&v.kG h then s.vc none (VC (vI k es=none) (K m ((o,some (.map ty es [(k,v)]))::h))) else False
    |_=>False
  |_,_,_=>False
 |_=>False
def aaK(P:Program)(dr:Bool)(nx n:Nat)(o:aO)(KK:Nat->Fm->Hz->Prop)(m:Fm)(h:Hz):Prop :=
 match PG m o.g with
 |none=>False
 |some g=>bif Jr nx o m then
   (match o.op with
   | .call f xs=>(match Aa m xs with
    |some (l,s)=>s.vc g (match g with
     |none=>A8 dr o.fl (ah P false none f l h n (fun v h'=>v.seq fun v=>KK 0 (iW o.d v m) h') (fun k v h'=>v.seq fun v=>KK k (iW o.d v m) h')) (ah P true none f l h n (fun v h'=>v.seq fun v=>KK 0 (iW o.d v m) h') (fun _ _ _=>False)) (ah P false none f l h n (fun v h'=>v.seq fun v=>KK 0 (iW o.d v m) h') (fun _ _ _=>False))
     |some b=>A8 dr o.fl (ah P false (some b) f l h n (fun v h'=>v.seq fun v=>KK 0 (iW o.d (qA (some b) v) m) h') (fun _ _ _=>False)) (ah P true (some b) f l h n (fun v h'=>v.seq fun v=>KK 0 (iW o.d (qA (some b) v) m) h') (fun _ _ _=>False)) (ah P false (some b) f l h n (fun v h'=>v.seq fun v=>KK 0 (iW o.d (qA (some b) v) m) h') (fun _ _ _=>False)))
    |none=>False)
   | .oZ x xs=>(match zL m x,Aa m xs with
    |some v,some (l,s)=>(match v.bare with
     |(.fn f cap,s0)=>(s0.and s).vc g (bif Nat.blt f 4096 then A8 dr o.fl (ah P false g f (l++cap) h n (fun v h'=>v.seq fun v=>KK 0 (iW o.d (qA g v) m) h') (fun _ _ _=>False)) (ah P true g f (l++cap) h n (fun v h'=>v.seq fun v=>KK 0 (iW o.d (qA g v) m) h') (fun _ _ _=>False)) (ah P false g f (l++cap) h n (fun v h'=>v.seq fun v=>KK 0 (iW o.d (qA g v) m) h') (fun _ _ _=>False)) else A8 dr o.fl (ah P false g (f % 4096) (.agg cap::l) h n (fun v h'=>v.seq fun v=>KK 0 (iW o.d (qA g v) m) h') (fun _ _ _=>False)) (ah P true g (f % 4096) (.agg cap::l) h n (fun v h'=>v.seq fun v=>KK 0 (iW o.d (qA g v) m) h') (fun _ _ _=>False)) (ah P false g (f % 4096) (.agg cap::l) h n (fun v h'=>v.seq fun v=>KK 0 (iW o.d (qA g v) m) h') (fun _ _ _=>False)))
     |_=>False)
    |_,_=>False)
   |op=>(match qz m h op with
    |some (v,s)=>s.vc g (v.seq fun v=>KK 0 (iW o.d (qA g v) m) h)
    |none=>(match g with
     |none=>Yi dr o.d n m h (KK 0) op
     |some b=>Fork b (Yi dr o.d n m h (KK 0) op) (KK 0 (iW o.d (.cnd false (.int 0)) m) h))))
   else False
def adZ(P:Program)(nx n:Nat)(o:aO)(KK:Nat->Fm->Hz->Prop)(m:Fm)(h:Hz):Prop :=
 match o.op,o.g with
 | .call f xs,none=>bif o.fl&&Jr nx o m then
   (match Aa m xs with
   |some (l,s)=>s.vc none (ah P true none f l h n (fun v h'=>v.seq fun v=>KK 0 (iW o.d v m) h') (fun _ v h'=>v.seq fun v=>KK 0 (iW o.d v m) h'))
   |none=>False)
   else False
 |_,_=>False
def opZ(P:Program)(dr:Bool)(nx n:Nat)(o:aO)(KK:Nat->Fm->Hz->Prop)(m:Fm)(h:Hz):Prop :=
 match o.ad with
 |true=>adZ P nx n o KK m h
 |false=>aaK P dr nx n o KK m h
def Nj(P:Program)(dr:Bool)(ml:Nat)(nx:Nat)(K:Fm->Hz->Nat->Prop):List aO->Nat->Fm->Hz->Prop
 |[],_,m,h=>K m h (nx+ml)
 |o::r,i,m,h=>opZ P dr nx (nx+i) o (fun k=>Nj P dr ml (nx+k) K r (i+1)) m h
abbrev Qz:=nY->Fm->Hz->Nat->Prop
def Lift(N pn:Nat)(Q:Qz)(e:nY)(s:AS):Prop:= ∃ m h,s.fr.length=N/\Rp m s.fr/\s.hp=h.aj/\s.pin=pn/\Q e m h s.nx
structure aP(P:Program)(N pn:Nat)(b:dP)(Q:Qz)(m:Fm)(h:Hz)(nx:Nat):Prop where
 ok: ∀ fr,fr.length=N->Rp m fr->xM (aw P b) (Lift N pn Q) ⟨fr,h.aj,nx,pn⟩
def az(P:Program)(N pn:Nat):dP->Qz->Fm->Hz->Nat->Prop
 | .skip,Q,m,h,nx=>Q .normal m h nx
 | .reg dr ops,Q,m,h,nx=>Nj P dr ops.length nx (fun m h nx=>Q .normal m h nx) ops 0 m h
 | .seq a b,Q,m,h,nx=>az P N pn a (fun e m h nx=>match e with| .normal=>az P N pn b Q m h nx|e=>Q e m h nx) m h nx
 | .cond c a b,Q,m,h,nx =>
  match zL m c with
  |some (.bool t)=>Fork t (az P N pn a Q m h nx) (az P N pn b Q m h nx)
  |_=>False
 | .blk id b,Q,m,h,nx=>az P N pn b (fun e m h nx=>match e with| .exit j=>(bif Nat.beq j id then Q .normal m h nx else Q (.exit j) m h nx)|e=>Q e m h nx) m h nx
 | .exit id,Q,m,h,nx=>Q (.exit id) m h nx
 | .ret,Q,m,h,nx=>Q .ret m h nx
 | .loop b,Q,m,h,nx=>aP P N pn b Q m h nx
def KH(N:Nat):List aO->Bool
 |[]=>true
 |o::r=>(match o.d with|some d=>Nat.blt d N|none=>true)&&KH N r
def oz(N:Nat):dP->Bool
 | .skip=>true
 | .reg _ ops=>KH N ops
 | .seq a b=>oz N a&&oz N b
 | .cond _ a b=>oz N a&&oz N b
 | .blk _ b=>oz N b
 | .exit _=>true
 | .ret=>true
 | .loop b=>oz N b
section
variable {P:Program} {m:Fm} {h:Hz}
theorem bF{i:Nat}{o:Option OV}:Hz.aj ((i,o)::h)=upd h.aj i (o.map OV.aF):=by
 funext j
 simp only[Hz.aj,Hz.get,upd]
 by_cases e:j=i
 ·subst e; simp
 ·have:Nat.beq i j=false:=by
   cases hb:Nat.beq i j with
   |false=>rfl
   |true=>exact absurd (iV hb).symm e
  simp[this,e]
theorem Rp.put{fr:List T}(R:Rp m fr){d:Option Nat}{v:V}(hd: ∀ i,d=some i->i<fr.length){s:AS}(hs:s.fr=fr):Rp (iW d v m) (s.put d v.aG).fr:=by
 subst hs
 cases d with
 |none=>exact R
 |some d =>
  intro i u hu
  simp only[iW,Fm.get] at hu
  show(s.fr.set d v.aG)[i]? =_
  cases hb:Nat.beq d i with
  |true =>
   rw[hb] at hu; simp at hu; subst hu
   have:=iV hb; subst this
   rw[List.getElem?_set_self (hd d rfl)]
  |false =>
   rw[hb] at hu
   have hne:d≠i:=Nat.ne_of_beq_eq_false hb
   rw[List.getElem?_set_ne hne]
   exact R i u hu
theorem QE{s:AS}{d:Option Nat}{t:T}:(s.put d t).fr.length=s.fr.length:=by cases d<;>simp[AS.put]
theorem qJ{g:Option Bool}{k:Prop}{s:Sd}(q:s.vc g k):((g=none\/g=some true)->s.holds)/\k:=by
 unfold Sd.vc at q
 split at q
 ·exact⟨fun _=>trivial,q⟩
 ·split at q
  ·obtain⟨a,b⟩:=q; exact⟨fun _=>a,b⟩
  ·obtain⟨a,b⟩:=q; exact⟨fun hg=>a (by rcases hg with e|e<;>cases e; rfl),b⟩
theorem TB{s:AS}(R:Rp m s.fr){g:Option (Nat×Bool)}{g':Option Bool}(q:PG m g=some g'):(gv g s=some true/\(g'=none\/g'=some true))\/(gv g s=some false/\g'=some false):=by
 unfold PG at q
 split at q
 ·cases q; exact .inl ⟨rfl,.inl rfl⟩
 ·rename_i d w
  split at q
  ·rename_i b e
   cases q
   have hg:s.fr.getD d .any= .lit (.bool b):=R.getD e
   simp only[gv,hg]
   cases w<;>cases b<;>simp
  ·rename_i c b e
   cases q
   have hg:s.fr.getD d .any=bif c then .lit (.bool b) else T.un:=R.getD e
   cases c with
   |true=>simp only[gv,hg,cond_true]; cases w<;>cases b<;>simp
   |false=>simp only[gv,hg,cond_false]; simp
  ·cases q
theorem Yj{s:AS}(R:Rp m s.fr){nx:Nat}: ∀ {xs:List X},ltX nx m xs=true->(xs.all fun x=>T.lt nx (s.ev x))=true:=by
 intro xs
 induction xs with
 |nil=>intro _; rfl
 |cons x r ih =>
  intro q
  simp only[ltX,Bool.and_eq_true] at q
  simp only[List.all_cons,Bool.and_eq_true]
  refine⟨?_,ih q.2⟩
  have:=q.1
  split at this
  ·rename_i v e; rw[R.ev e]; exact this
  ·cases this
theorem V4{s:AS}(R:Rp m s.fr){i:Nat}: ∀ {xs:List X},Yh i m xs=true->(xs.all fun x=>T.ZL i (s.ev x))=true:=by
 intro xs
 induction xs with
 |nil=>intro _; rfl
 |cons x r ih =>
  intro q
  simp only[Yh,Bool.and_eq_true] at q
  simp only[List.all_cons,Bool.and_eq_true]
  refine⟨?_,ih q.2⟩
  have:=q.1
  split at this
  ·rename_i v e; rw[R.ev e]; exact this
  ·cases this
theorem aaL{s:AS}(R:Rp m s.fr){xs:List X}: ∀ {l:List Nat},neB m xs l=true->JW s xs l=true:=by
 intro l
 induction l with
 |nil=>intro _; rfl
 |cons d r ih =>
  intro q
  simp only[neB,Bool.and_eq_true] at q
  simp only[JW,Bool.and_eq_true]
  refine⟨?_,ih q.2⟩
  have:=q.1
  split at this
  ·rename_i i j o e
   have hg:s.fr.getD d .any= .ptr i j o:=R.getD e
   simp only[AS.obj,hg]
   exact V4 R this
  ·cases this
theorem Nk{s:AS}(R:Rp m s.fr){o:aO}(q:Jr s.nx o m=true):jU o s:=by
 unfold Jr at q
 simp only[Bool.and_eq_true,Bool.or_eq_true,Bool.not_eq_true'] at q
 refine⟨fun hf=>?_,aaL R q.2⟩
 have h1:V3 s.nx m o.op=true:=by
  rcases q.1 with h|h
  ·rw[hf] at h; cases h
  ·exact h
 unfold V3 at h1
 split at h1
 ·rename_i k x v e
  rw[e]
  split at h1
  ·rename_i u hu; simp only; rw[R.ev hu]; exact h1
  ·cases h1
 ·rename_i e
  rw[e]
  split at h1
  ·rename_i u hu; simp only; rw[R.ev hu]; exact h1
  ·cases h1
 ·cases h1
 ·cases h1
 ·rename_i e; rw[e]
 ·rename_i e; rw[e]
 ·rename_i op h2 h3 h4 h5 h6 h7
  have:=Yj R h1
  split
  ·rename_i e; exact absurd e (h2 _ _ _)
  ·rename_i e; exact absurd e (h3 _ _ _ _ _)
  ·rename_i e; exact absurd e (h4 _ _ _)
  ·rename_i e; exact absurd e (h5 _ _ _)
  ·rfl
  ·rfl
  ·exact this
def Kz(N pn nx:Nat)(K:Fm->Hz->Prop)(s:AS):Prop:= ∃ m h,s.fr.length=N/\Rp m s.fr/\s.hp=h.aj/\s.pin=pn/\s.nx=nx/\K m h
theorem TD{k:Nat}{v:V}(q:Iu k [v]=true):v.aG.kd=k:=V.KF (Fa q v (by simp))
theorem Yk{n:Nat}{z:T}{r:Rw}(q:Q7 n z=some r):r.aT=List.replicate n z:=by
 unfold Q7 at q
 split at q<;>cases q
 ·simp[Rw.aT]
 ·simp[Rw.aT]
 ·simp only[Rw.aT,List.map_replicate]; rw[Y8]
theorem Rw.Yl{j:Nat}{v:V}{r w:Rw}(q:r.set j v=some w):w.aT=r.aT.set j v.aG:=by
 unfold Rw.set at q
 split at q<;>first|(cases q; done)|(cases q; simp[Rw.aT,V.aG,Dat.aG,List.map_set])
theorem Ym{k:Nat}{y:V}{r:Rw}{x:List V}(q:aaI h k y=some (r,x)):OO h.aj k y.aG= .list (r.aT++V.aT x):=by
 unfold aaI at q
 split at q
 ·rename_i k' f w
  obtain⟨g,q⟩:=aS q; cases q
  simp only[V.aG,OO,V.aT,List.append_nil]
  rcases Ea g with rfl|e
  ·cases r.aT<;>simp
  ·rw[e]
 ·rename_i k' f l
  obtain⟨g,q⟩:=aS q; cases q
  have:=iV g; subst this
  simp only[V.aG,OO,Rw.aT,List.nil_append]
  cases hx:V.aT x<;>simp
 ·split at q
  ·rename_i o _ ty ko w z e
   obtain⟨g,q⟩:=aS q; cases q
   have:=iV g; subst this
   simp[V.aG,OO,aH e,OV.aF]
  ·cases q
 ·cases q
theorem CU{r:Rw}{x:List V}:lS r x=(r.aT++V.aT x).length:=by
 unfold lS
 split
 ·simp[V.aT,Rw.eG]
 ·simp[fQ,Rw.eG]
theorem Yn{r r' w:Rw}{x x' z:List V}(q:aaJ r x r' x'=some (w,z)):w.aT++V.aT z=(r.aT++V.aT x)++(r'.aT++V.aT x'):=by
 unfold aaJ at q
 split at q
 ·split at q
  ·rename_i w' e; cases q; rw[Rw.KE e]; simp[V.aT]
  ·cases q
 ·cases q; simp[xB,Rw.aT]
 ·cases q
theorem aaM{k:Int}: ∀ {es:List (Int×List Bool)},uG k (es.map yx)=(vI k es).map fun l=>.sl 0 false (l.map T.bool):=by
 intro es
 induction es with
 |nil=>rfl
 |cons e es ih =>
  obtain⟨m,l⟩:=e
  simp only[List.map_cons,yx,uG,T.int,vI]
  cases k==m
  ·exact ih
  ·rfl
theorem abP{k:Int}{v:T}: ∀ {es:List (Int×List Bool)},vI k es=none->yD k v (es.map yx)=es.map yx++[.gQ [.int k,v]]:=by
 intro es
 induction es with
 |nil=>intro _; rfl
 |cons e es ih =>
  obtain⟨m,l⟩:=e
  intro h
  simp only[vI] at h
  cases hb:k==m with
  |true=>rw[hb] at h; cases h
  |false =>
   rw[hb] at h
   simp only[List.map_cons,yx,yD,T.int,hb,cond_false,List.cons_append]
   rw[ih h]
theorem Js{N pn n nx:Nat}{d:Option Nat}{op:nM}{K:Fm->Hz->Prop}{s:AS}{dr:Bool}(hl:s.fr.length=N)(hd: ∀ i,d=some i->i<N)(R:Rp m s.fr)(hh:s.hp=h.aj)(hp:s.pin=pn)(hn:s.nx=nx)(q:Yi dr d n m h K op) :
  mg P dr n d op (Kz N pn nx K) s:=by
 have hd': ∀ i,d=some i->i<s.fr.length:=fun i e=>by rw[hl]; exact hd i e
 have fin: ∀ {v:V} {h':Hz},K (iW d v m) h'->Kz N pn nx K {(s.put d v.aG) with hp:=h'.aj}:=fun {v h'} hk =>
  ⟨_,h',by show(s.put d v.aG).fr.length=N; rw[QE,hl],R.put (v:=v) hd' rfl,rfl,by show(s.put d v.aG).pin=pn; cases d<;>exact hp,by show(s.put d v.aG).nx=nx; cases d<;>exact hn,hk⟩
 unfold Yi at q
 split at q
 ·rename_i ty k x
  split at q
  ·rename_i v e
   split at q
   rename_i v' s' hb
   cases g:Iu k [v']&&v'.kG h&&xX k with
   |false=>rw[g] at q; exact q.elim
   |true =>
    rw[g] at q
    simp only[Bool.and_eq_true] at g
    simp only[cond_true] at q
    obtain⟨hs,hk⟩:=qJ q
    have ev:s.ev x=v'.aG:=by rw[R.ev e]; exact jm hb (hs (.inl rfl))
    simp only[mg]
    rw[ev,TD g.1.1,hh,V.wG g.1.2,g.2]
    refine⟨by simp,?_⟩
    have:=fin hk
    rw[bF] at this
    exact this
  ·exact q.elim
 ·rename_i ty k z
  cases g:z.kd==k&&z.kG h.aj&&z.free&&xX k with
  |false=>rw[g] at q; exact q.elim
  |true =>
   rw[g] at q
   simp only[mg]
   rw[hh,g]
   refine⟨rfl,?_⟩
   have:=fin q
   rw[bF] at this
   simp only[Option.map_some,OV.aF,xA] at this
   exact this
 ·rename_i ty k bytes z x y
  split at q
  ·rename_i a b e1 e2
   cases g:z.kd==k&&z.kG h.aj&&z.free&&xX k with
   |false=>rw[g] at q; exact q.elim
   |true =>
    rw[g] at q
    simp only[cond_true] at q
    split at q
    ·rename_i r er
     obtain⟨c,hk⟩:=q
     simp only[mg]
     rw[R.ev e1,R.ev e2]
     simp only[V.aG]
     rw[hh,g]
     refine⟨rfl,c,?_⟩
     have:=fin hk
     rw[bF] at this
     simp only[Option.map_some,OV.aF,V.aT,List.append_nil] at this
     have hr:r.aT=List.replicate a.toNat z:=by
      cases hz:isZero (.int a) with
      |false=>rw[hz] at er; exact Yk er
      |true =>
       rw[hz] at er; cases er
       unfold isZero at hz
       split at hz
       ·rename_i e; cases e; rfl
       ·cases hz
     rw[hr] at this
     exact this
    ·exact q.elim
  ·exact q.elim
 ·rename_i k x v
  split at q
  ·rename_i i j off v0 e1 e2
   split at q
   rename_i v' s' hb
   cases g:Iu k [v']&&v'.kG h with
   |false=>rw[g] at q; exact q.elim
   |true =>
    rw[g] at q
    simp only[Bool.and_eq_true] at g
    simp only[cond_true] at q
    have fin2: ∀ {h':Hz},K m h'->Kz N pn nx K {s with hp:=h'.aj}:=fun {h'} hk=>⟨m,h',hl,R,rfl,hp,hn,hk⟩
    have ex:s.ev x= .ptr i j off:=R.ev e1
    simp only[mg]
    rw[ex]
    simp only
    split at q
    ·rename_i ty ko w eo
     rw[hh,aH eo]
     simp only[OV.aF]
     cases hj:Nat.beq j 0 with
     |false=>rw[hj] at q; exact q.elim
     |true =>
      have:=iV hj; subst this
      rw[hj] at q
      simp only[cond_true] at q
      cases hb2:(Nat.beq off 0&&Nat.beq ko k) with
      |true =>
       rw[hb2] at q
       simp only[cond_true] at q
       obtain⟨hs,hk⟩:=qJ q
       have ev:s.ev v=v'.aG:=by rw[R.ev e2]; exact jm hb (hs (.inl rfl))
       simp only[Bool.and_eq_true] at hb2
       have f1:=iV hb2.1; have f2:=iV hb2.2; subst f1; subst f2
       rw[ev,TD g.1,V.wG g.2]
       refine⟨by simp,by simp,by simp,?_⟩
       have:=fin2 hk
       rw[bF] at this
       simp only[BEq.rfl,Bool.and_self,cond_true,List.set_cons_zero]
       exact this
      |false =>
       rw[hb2] at q
       simp only[cond_false] at q
       cases hc:(!(Nat.beq ko 0)&&lX (aZ ko) off k) with
       |false=>rw[hc] at q; exact q.elim
       |true =>
        rw[hc] at q
        simp only[cond_true] at q
        split at q
        ·rename_i w' hw
         rw[V.force_eq] at q
         obtain⟨hs,hk⟩:=qJ q
         have ev:s.ev v=v'.aG:=by rw[R.ev e2]; exact jm hb (hs (.inl rfl))
         have hb':(off==0&&ko==k)=false:=by
          rw[Bool.and_eq_false_iff] at hb2 ⊢
          rcases hb2 with hb2|hb2
          ·left; simpa using Nat.ne_of_beq_eq_false hb2
          ·right; simpa using Nat.ne_of_beq_eq_false hb2
         simp only[Bool.and_eq_true] at hc
         rw[ev,TD g.1,V.wG g.2]
         refine⟨by simp,by simp,?_,?_⟩
         ·simp only[hb',Bool.false_or,Bool.and_eq_true]; exact⟨VU hc.1,hc.2⟩
         ·have:=fin2 hk
          rw[bF] at this
          simp only[hb',cond_false,List.set_cons_zero,List.getD_cons_zero]
          have ew:w.aG.splice off v'.aG=w'.aG:=by
           unfold setCells at hw
           split at hw
           ·rename_i l c f1 f2
            cases hw
            unfold T.splice
            rw[V.D8 f1,V.D8 f2]
            simp only[V.aG,xB,Hf,Hg,fQ]
           ·cases hw
          rw[ew]
          exact this
        ·exact q.elim
    ·rename_i ty ko r eo
     rw[hh,aH eo]
     simp only[OV.aF,V.aT,List.append_nil]
     cases hb2:(Nat.beq off 0&&Nat.beq ko k) with
     |false=>rw[hb2] at q; exact q.elim
     |true =>
      rw[hb2] at q
      simp only[cond_true] at q
      split at q
      ·rename_i r' hr
       obtain⟨hs,hk0⟩:=qJ q
       obtain⟨acL,hk⟩:=hk0
       have ev:s.ev v=v'.aG:=by rw[R.ev e2]; exact jm hb (hs (.inl rfl))
       simp only[Bool.and_eq_true] at hb2
       have f1:=iV hb2.1; have f2:=iV hb2.2; subst f1; subst f2
       rw[Rw.CP] at acL
       rw[ev,TD g.1,V.wG g.2]
       refine⟨by simp,by rw[Rw.eG]; omega,by simp,?_⟩
       have:=fin2 hk
       rw[bF] at this
       simp only[Option.map_some,OV.aF,V.aT,List.append_nil,Rw.Yl hr] at this
       simp only[BEq.rfl,Bool.and_self,cond_true]
       exact this
      ·exact q.elim
    ·exact q.elim
  ·exact q.elim
 ·rename_i ty k bytes x y
  split at q
  ·rename_i vx vy e1 e2
   split at q
   ·rename_i r' x' es
    simp only[mg]
    rw[R.ev e1,R.ev e2,hh,Ym es]
    simp only
    split at q
    ·rename_i k'
     obtain⟨c,hk⟩:=q
     have e0:(V.row k' true Rw.nil).aG= .sl k' true []:=rfl
     rw[e0]
     unfold mW at c
     rw[CU] at c
     refine⟨.inr rfl,.inl (.inl rfl),by simpa using c.1,by simpa using c.2,?_⟩
     have:=fin hk
     rw[bF] at this
     exact this
    ·rename_i k' r hnn
     cases hb2:Nat.beq k' k with
     |false=>rw[hb2] at q; exact q.elim
     |true =>
      rw[hb2] at q
      have:=iV hb2; subst this
      simp only[cond_true] at q
      split at q
      ·rename_i w hw
       obtain⟨c1,c2,hk⟩:=q.ok
       simp only[V.aG]
       unfold mW at c2
       rw[CU] at c1 c2
       refine⟨.inl trivial,?_,by rw[Rw.eG]; exact c2.1,by rw[Rw.eG]; exact c2.2,?_⟩
       ·rcases c1 with (c|c)|⟨c,hk2⟩
        ·left; left; exact List.eq_nil_of_length_eq_zero (by rw[Rw.eG]; exact c)
        ·left; right; intro e; rw[e] at c; simp at c
        ·right
         refine⟨c,?_⟩
         have f1:=fin hk2
         rw[<- hh] at f1
         rw[show({(s.put d (V.row k' true r).aG) with hp:=s.hp}:AS)=s.put d (.sl k' true r.aT) by cases d<;>rfl] at f1
         exact f1
       ·have:=fin hk
        rw[bF] at this
        simp only[Option.map_some,OV.aF,Rw.KE hw,List.append_assoc] at this
        exact this
      ·exact q.elim
    ·rename_i i
     split at q
     ·rename_i ty' ko r xx eo
      cases hb2:(Nat.beq ko k&&Nat.beq ty' ty) with
      |false=>rw[hb2] at q; exact q.elim
      |true =>
       rw[hb2] at q
       simp only[cond_true] at q
       simp only[Bool.and_eq_true] at hb2
       have f1:=iV hb2.1; have f2:=iV hb2.2; subst f1; subst f2
       split at q
       ·rename_i w z hw
        obtain⟨c,hk⟩:=q
        simp only[V.aG,aH eo,OV.aF]
        unfold mW at c
        rw[CU,CU] at c
        refine⟨by simp,c.1,c.2,?_⟩
        have:=fin hk
        rw[bF,bF] at this
        simp only[Option.map_some,Option.map_none,OV.aF,Yn hw] at this
        exact this
       ·exact q.elim
     ·exact q.elim
    ·exact q.elim
   ·exact q.elim
  ·exact q.elim
 ·rename_i k z x
  split at q
  ·rename_i i lo hi e
   split at q
   ·rename_i ty ko r eo
    cases g:(Nat.beq ko k&&z.kd==k&&z.kG h.aj&&z.free) with
    |false=>rw[g] at q; exact q.elim
    |true =>
     rw[g] at q
     simp only[cond_true] at q
     obtain⟨⟨c1,c2⟩,hk⟩:=q
     simp only[Bool.and_eq_true] at g
     obtain⟨⟨⟨g1,g2⟩,g3⟩,g4⟩:=g
     have f1:=iV g1; subst f1
     simp only[mg]
     rw[R.ev e]
     simp only[V.aG,hh,aH eo,OV.aF]
     refine⟨by simp[g2,g3,g4],by simp[Rw.eG,c2,V.aT],?_⟩
     have el:(r.take lo).aT++V.aT (List.replicate (hi-lo) (zT z))=List.take lo (r.aT++V.aT [])++List.replicate (hi-lo) z++List.drop hi (r.aT++V.aT []):=by
      rw[Rw.CQ,nN,List.map_replicate,xA]
      simp[V.aT,Rw.eG,c2]
     cases d with
     |none =>
      simp only at hk
      refine⟨_,_,hl,R,?_,hp,hn,hk⟩
      rw[bF]
      simp only[Option.map_some,OV.aF,el]
     |some dd =>
      simp only at hk
      have:=fin hk
      rw[bF] at this
      simp only[Option.map_some,OV.aF,el] at this
      exact this
   ·exact q.elim
  ·exact q.elim
 ·rename_i ty k z nn ps
  split at q
  ·rename_i vs s' hb
   split at q
   ·rename_i l hl
    cases g:((z.kd==k)&&z.free&&Iu k vs&&Ac h vs&&Nat.ble (nn*aZ k) 16777216&&xX k) with
    |false=>rw[g] at q; exact q.elim
    |true =>
     rw[g] at q
     simp only[cond_true] at q
     obtain⟨hs,hk⟩:=qJ q
     have he:=tZ R hb (hs (.inl rfl))
     have he':(ps.map fun p=>s.ev p.2)=V.aT vs:=by rw[<- he]; simp
     simp only[Bool.and_eq_true] at g
     obtain⟨⟨⟨⟨⟨g1,g2⟩,g3⟩,g4⟩,g5⟩,g6⟩:=g
     obtain⟨i1,i2⟩:=QC hl he' g3
     have e:V.aT (List.replicate nn (zT z))=List.replicate nn z:=by rw[nN,List.map_replicate,xA]
     rw[e] at i2
     simp only[mg]
     rw[i1,i2,he',hh,D9 g4,g1,g2,g5,g6]
     refine⟨rfl,?_⟩
     have:=fin hk
     rw[bF] at this
     simp only[Option.map_some,OV.aF,Rw.aT,List.nil_append] at this
     exact this
   ·exact q.elim
  ·exact q.elim
 ·rename_i x
  split at q
  ·rename_i k' f r e
   obtain⟨q1,q2⟩:=q
   simp only[mg]
   rw[R.ev e]
   have f1:=fun hz=>fin (q1 hz)
   have f2:=fin q2
   rw[<- hh] at f1 f2
   refine⟨fun hl=>?_,?_⟩
   ·have:=f1 (by rw[<- Rw.eG]; exact congrArg List.length hl)
    rw[show({(s.put d (V.bool true).aG) with hp:=s.hp}:AS)=s.put d (.lit (.bool true)) by cases d<;>rfl] at this
    exact this
   ·rw[show({(s.put d (V.bool false).aG) with hp:=s.hp}:AS)=s.put d (.lit (.bool false)) by cases d<;>rfl] at f2
    exact f2
  ·rename_i i e
   split at q
   ·rename_i ty ko r eo
    cases hb:Nat.beq ko fC with
    |true=>rw[hb] at q; exact q.elim
    |false =>
     rw[hb] at q
     obtain⟨q1,q2⟩:=q
     simp only[mg]
     rw[R.ev e]
     have f1:=fun hz=>fin (q1 hz)
     have f2:=fin q2
     rw[<- hh] at f1 f2
     simp only[V.aG,hh,aH eo,OV.aF]
     refine⟨fun hl=>?_,?_,Nat.ne_of_beq_eq_false hb⟩
     ·have:=f1 (by rw[<- Rw.eG]; simpa [V.aT] using congrArg List.length hl)
      rw[show({(s.put d (V.bool true).aG) with hp:=s.hp}:AS)=s.put d (.lit (.bool true)) by cases d<;>rfl] at this
      exact this
     ·rw[show({(s.put d (V.bool false).aG) with hp:=s.hp}:AS)=s.put d (.lit (.bool false)) by cases d<;>rfl] at f2
      exact f2
   ·exact q.elim
  ·exact q.elim
 ·rename_i ty
  simp only[mg]
  have:=fin q
  rw[bF] at this
  rw[hh]
  exact this
 ·rename_i z x i
  split at q
  ·rename_i o k e1 e2
   split at q
   ·rename_i ty es eo
    obtain⟨q1,q2⟩:=q
    rw[dF rfl]
    simp only[qc,qt]
    rw[R.ev e1,R.ev e2]
    simp only[V.aG,T.int,hh,aH eo,OV.aF,List.map_nil,List.append_nil,aaM]
    refine⟨trivial,?_⟩
    cases hg:vI k es with
    |some l =>
     have f1:=fin (q1 l hg)
     rw[<- hh] at f1
     rw[show({(s.put d (V.gQ [.row 0 false (.bools l),.bool true]).aG) with hp:=s.hp}:AS)=s.put d (.gQ [.sl 0 false (l.map T.bool),.lit (.bool true)]) by cases d<;>rfl] at f1
     exact f1
    |none =>
     have f2:=fin (q2 hg)
     rw[<- hh] at f2
     rw[show({(s.put d (V.gQ [zT z,.bool false]).aG) with hp:=s.hp}:AS)=s.put d (.gQ [(zT z).aG,.lit (.bool false)]) by cases d<;>rfl,xA] at f2
     exact f2
   ·exact q.elim
  ·exact q.elim
 ·rename_i x i v
  split at q
  ·rename_i o k w e1 e2 e3
   split at q
   rename_i v' s' hb
   split at q
   ·rename_i ty es eo
    cases g:Iu 0 [v']&&v'.kG h with
    |false=>rw[g] at q; exact q.elim
    |true =>
     rw[g] at q
     simp only[Bool.and_eq_true] at g
     simp only[cond_true] at q
     obtain⟨hs,c,hk⟩:=qJ q
     have ev:s.ev v=v'.aG:=by rw[R.ev e3]; exact jm hb (hs (.inl rfl))
     have hkd:=TD g.1
     have hst:=V.wG g.2
     simp only[mg]
     rw[R.ev e1,R.ev e2,ev]
     simp only[V.aG,T.int,hh,aH eo,OV.aF,List.map_nil,List.append_nil]
     refine⟨trivial,?_,?_⟩
     ·rw[hkd]
      have:v'.aG.vS h.aj=true:=by
       revert hst hkd
       cases v'.aG<;>simp[T.kG,T.kd]
      rw[this]; rfl
     ·have hK:Kz N pn nx K {s with hp:=Hz.aj ((o,some (.map ty es [(k,v')]))::h)}:=⟨m,_,hl,R,rfl,hp,hn,hk⟩
      rw[bF] at hK
      have:=abP (v:=v'.aG) c
      simp only[T.int] at this
      rw[this]
      exact hK
   ·exact q.elim
  ·exact q.elim
 ·exact q.elim
end
section
variable {P:Program} {m:Fm} {h:Hz}
theorem Kz.put{N pn nx:Nat}{K:Fm->Hz->Prop}{s:AS}{d:Option Nat}{v:V}{t:T}{h':Hz}(hl:s.fr.length=N)(hd: ∀ i,d=some i->i<N)(R:Rp m s.fr)(hp:s.pin=pn)(hn:s.nx=nx)(ht:t=v.aG)(hk:K (iW d v m) h') :
  Kz N pn nx K {(s.put d t) with hp:=h'.aj}:=by
 subst ht
 exact⟨_,h',by show(s.put d v.aG).fr.length=N; rw[QE,hl],R.put (v:=v) (fun i e=>by rw[hl]; exact hd i e) rfl,rfl,by show(s.put d v.aG).pin=pn; cases d<;>exact hp,by show(s.put d v.aG).nx=nx; cases d<;>exact hn,hk⟩
theorem Hl{N pn nx n:Nat}{K:Fm->Hz->Prop}{KW:Nat->Fm->Hz->Prop}{s:AS}{d:Option Nat}{dr:Bool}{g:Option Bool}{f:FuncId}{l:List V}(hl:s.fr.length=N)(hd: ∀ i,d=some i->i<N)(R:Rp m s.fr)(hh:s.hp=h.aj)(hp:s.pin=pn)(hn:s.nx=nx)
  (hg:g=none\/g=some true) (q:ah P dr g f l h n (fun v h'=>v.seq fun v=>K (iW d (qA g v) m) h') (fun k v h'=>v.seq fun v=>KW k (iW d v m) h')) (hq:dr=true-> ∀ (v:V) (h':Hz),¬ (v.seq fun v=>KW 0 (iW d v m) h')) :
  lZ P dr n d f (V.aT l) (Kz N pn nx K) s\/(dr=false/\ ∃ k,jL P f (V.aT l) s.hp n k fun t hp=>Kz N pn (nx+k) (KW k) {(s.put d t) with hp:=hp,nx:=s.nx+k}):=by
 unfold lZ
 rw[hh]
 rcases q.ok with q|⟨rfl,rfl,k,q⟩|⟨_,hdr,_,⟨_,_,v,o,_,_,hk⟩,_⟩
 rotate_left
 rotate_left
 ·exact absurd hk (hq hdr _ _)
 rotate_left
 ·refine .inr ⟨rfl,k,q.mono ?_⟩
  rintro t hp' ⟨v,h',rfl,rfl,hk⟩
  rw[V.seq_eq] at hk
  obtain⟨m',h'',a1,a2,a3,a4,_,a6⟩:=Kz.put (K:=KW k) hl hd R hp hn rfl hk
  exact⟨m',h'',a1,a2,a3,a4,by show s.nx+k=nx+k; rw[hn],a6⟩
 left
 rcases hg with rfl|rfl
 ·refine aK.mono q ?_
  rintro t hp' ⟨v,h',e1,e2,e3,hk⟩
  rw[V.seq_eq] at hk
  subst e2
  refine⟨fun e=>⟨by rw[(e3 e).1],(e3 e).2⟩,Kz.put (v:=v) hl hd R hp hn e1 hk⟩
 ·rcases q with ⟨v,c,hf,hk⟩|⟨hdr,c,_⟩
  rotate_left
  ·refine aK.mono (c rfl) ?_
   rintro t hp' ⟨v,h',e1,e2,hk⟩
   rw[V.seq_eq] at hk
   subst e2
   exact⟨fun e=>(by rw[hdr] at e; cases e),Kz.put (v:=qA (some true) v) hl hd R hp hn (e1.trans (Eb v).symm) hk⟩
  rw[V.seq_eq] at hk
  refine aK.mono (c rfl) ?_
  rintro t hp' ⟨e1,e2⟩
  subst e2
  refine⟨fun _=>⟨rfl,by rw[e1]; exact V.lQ v hf⟩,Kz.put (v:=qA (some true) v) hl hd R hp hn (by rw[e1]; exact(Eb v).symm) hk⟩
theorem uO{N pn nx n:Nat}{K:Fm->Hz->Prop}{s:AS}{d:Option Nat}{dr:Bool}{g:Option Bool}{f:FuncId}{l:List V}(hl:s.fr.length=N)(hd: ∀ i,d=some i->i<N)(R:Rp m s.fr)(hh:s.hp=h.aj)(hp:s.pin=pn)(hn:s.nx=nx)
  (hg:g=none\/g=some true) (q:ah P dr g f l h n (fun v h'=>v.seq fun v=>K (iW d (qA g v) m) h') (fun _ _ _=>False)):lZ P dr n d f (V.aT l) (Kz N pn nx K) s:=by
 rcases Hl (KW:=fun _ _ _=>False) hl hd R hh hp hn hg ⟨q.ok.imp id fun h=>h.imp (fun⟨a,b,k,c⟩=>⟨a,b,k,c.mono fun _ _ ⟨_,_,_,_,h⟩=>h.elim⟩) (fun⟨a,b,d,c⟩=>⟨a,b,d,c.mono fun _ _ ⟨_,_,_,_,h⟩=>h.elim⟩)⟩ (fun _ v h' hk=>by rw[V.seq_eq] at hk; exact hk) with h|⟨_,k,⟨t,hp',hk⟩,_⟩
 ·exact h
 ·obtain⟨_,_,_,_,_,_,_,hk⟩:=hk; exact hk.elim
theorem ah.guard{dr:Bool}{f:FuncId}{args:List V}{n:Nat}{K:V->Hz->Prop}{KW:Nat->V->Hz->Prop}(q:ah P dr (some false) f args h n K KW): ∃ v,K v h:=by
 rcases q.ok with (⟨v,_,_,k⟩|⟨_,_,k⟩)|⟨h1,_⟩|⟨h1,_⟩
 ·exact⟨v,k⟩
 ·exact⟨_,k rfl⟩
 ·cases h1
 ·cases h1
theorem TF{dr fl:Bool}{a b c:Prop}:A8 dr fl a b c↔(dr=false/\a)\/(dr=true/\bif fl then c else b):=by
 cases dr<;>cases fl<;>simp[A8]
theorem qK{dr fl:Bool}{C:Bool->Prop}(q:A8 dr fl (C false) (C true) (C false)):C (dr&& !fl):=by
 cases dr<;>cases fl<;>exact q
theorem PI{N pn nx n:Nat}{KK:Nat->Fm->Hz->Prop}{s:AS}{o:aO}{dr:Bool}(hl:s.fr.length=N)(hd: ∀ i,o.d=some i->i<N)(R:Rp m s.fr)(hh:s.hp=h.aj)(hp:s.pin=pn)(hn:s.nx=nx)
  (q:aaK P dr nx n o KK m h):(gv o.g s=some true/\jU o s/\(mg P (o.dr dr) n o.d o.op (Kz N pn nx (KK 0)) s\/ZM P dr n o.d o.op (fun s'=> ∃ k,Kz N pn (nx+k) (KK k) s') s))\/(gv o.g s=some false/\Kz N pn nx (KK 0) (s.put o.d T.un)):=by
 unfold aaK at q
 split at q
 ·exact q.elim
 ·rename_i g hg
  cases hf:Jr nx o m with
  |false=>rw[hf] at q; exact q.elim
  |true =>
   rw[hf] at q
   simp only[cond_true] at q
   have hfl:jU o s:=Nk R (by rw[hn]; exact hf)
   have un: ∀ {v:V} {h':Hz},h'=h->KK 0 (iW o.d (qA (some false) v) m) h'->Kz N pn nx (KK 0) (s.put o.d T.un):=fun {v h'} e hk=>by
    subst e
    have:=Kz.put (s:=s) (v:=qA (some false) v) (t:=T.un) hl hd R hp hn (PE v).symm hk
    rw[<- hh] at this
    have e2:({(s.put o.d T.un) with hp:=s.hp}:AS)=s.put o.d T.un:=by
     cases o.d<;>rfl
    rw[e2] at this
    exact this
   rcases TB R hg with ⟨h1,h2⟩|⟨h1,rfl⟩
   ·refine .inl ⟨h1,hfl,?_⟩
    split at q
    ·rename_i f xs eo
     split at q
     ·rename_i l sd hb
      obtain⟨hs,q⟩:=qJ q
      have ed:o.dr dr=(dr&& !o.fl):=by unfold aO.dr; rw[eo]
      rw[ed,eo]
      show lZ P (dr&& !o.fl) n o.d f (xs.map s.ev) _ s\/(dr=false/\ ∃ k,jL P f (xs.map s.ev) s.hp n k _)
      rw[tZ R hb (hs h2)]
      split at q
      ·rw[TF] at q
       rcases q with ⟨e,q⟩|q
       ·rw[e]
        exact(Hl (g:=none) hl hd R hh hp hn h2 q (fun e=>by cases e)).imp id fun⟨a,k,b⟩=>⟨a,k,b.mono fun _ _ hk=>⟨k,hk⟩⟩
       ·obtain⟨hdt,q⟩:=q
        refine .inl (uO (g:=none) hl hd R hh hp hn h2 ?_)
        rw[hdt]
        cases hf2:o.fl<;>rw[hf2] at q<;>exact q
      ·rename_i bb _
       exact .inl (uO hl hd R hh hp hn h2 (qK (C:=fun dr=>ah P dr (some bb) f l h n (fun v h'=>v.seq fun v=>KK 0 (iW o.d (qA (some bb) v) m) h') (fun _ _ _=>False)) q))
     ·exact q.elim
    ·rename_i x xs eo
     split at q
     ·rename_i v0 l sd e1 hb
      split at q
      ·rename_i f cap s0 hb0
       obtain⟨hs,q⟩:=qJ q
       have hs2:=Sd.mQ.1 (hs h2)
       have ed:o.dr dr=(dr&& !o.fl):=by unfold aO.dr; rw[eo]
       rw[ed,eo]
       left
       simp only[mg]
       rw[R.ev e1,jm hb0 hs2.1]
       simp only[V.aG]
       rw[tZ R hb hs2.2,<- xB]
       cases hbl:Nat.blt f 4096 with
       |true=>rw[hbl] at q; exact uO hl hd R hh hp hn h2 (qK (C:=fun dr=>ah P dr g f (l++cap) h n (fun v h'=>v.seq fun v=>KK 0 (iW o.d (qA g v) m) h') (fun _ _ _=>False)) q)
       |false=>rw[hbl] at q; exact uO (l:=.agg cap::l) hl hd R hh hp hn h2 (qK (C:=fun dr=>ah P dr g (f % 4096) (.agg cap::l) h n (fun v h'=>v.seq fun v=>KK 0 (iW o.d (qA g v) m) h') (fun _ _ _=>False)) q)
      ·exact q.elim
     ·exact q.elim
    ·rename_i hn1 hn2
     have ed:o.dr dr=dr:=by
      unfold aO.dr
      split
      ·rename_i e; exact absurd e (hn1 _ _)
      ·rename_i e; exact absurd e (hn2 _ _)
      ·rfl
     rw[ed]
     left
     split at q
     ·rename_i v sd hq
      obtain⟨hs,hk⟩:=qJ q
      rw[V.seq_eq] at hk
      obtain⟨hqu,hc,ht⟩:=VZ R hh hq (hs h2)
      rw[dF hqu]
      refine⟨hc,?_⟩
      have:=Kz.put (s:=s) (v:=qA g v) (t:=qt s o.op) hl hd R hp hn (by rw[ht]; rcases h2 with rfl|rfl; rfl; exact(Eb v).symm) hk
      rw[<- hh] at this
      have e2:({(s.put o.d (qt s o.op)) with hp:=s.hp}:AS)=s.put o.d (qt s o.op):=by cases o.d<;>rfl
      rw[e2] at this
      exact this
     ·split at q
      ·exact Js hl hd R hh hp hn q
      ·rename_i b _
       rcases h2 with h2|h2
       ·cases h2
       ·cases h2
        obtain⟨qa,_⟩:=q
        exact Js hl hd R hh hp hn (qa rfl)
   ·refine .inr ⟨h1,?_⟩
    split at q
    ·split at q
     ·obtain⟨hs,q⟩:=qJ q
      obtain⟨v,hk⟩:=ah.guard (qK (C:=fun dr=>ah P dr (some false) _ _ h n (fun v h'=>v.seq fun v=>KK 0 (iW o.d (qA (some false) v) m) h') (fun _ _ _=>False)) q)
      rw[V.seq_eq] at hk
      exact un rfl hk
     ·exact q.elim
    ·split at q
     ·rename_i v0 l sd e1 hb
      split at q
      ·rename_i f cap s0 hb0
       obtain⟨hs,q⟩:=qJ q
       cases hbl:Nat.blt f 4096 with
       |true =>
        rw[hbl] at q
        obtain⟨v,hk⟩:=ah.guard (qK (C:=fun dr=>ah P dr (some false) f (l++cap) h n (fun v h'=>v.seq fun v=>KK 0 (iW o.d (qA (some false) v) m) h') (fun _ _ _=>False)) q)
        rw[V.seq_eq] at hk
        exact un rfl hk
       |false =>
        rw[hbl] at q
        obtain⟨v,hk⟩:=ah.guard (qK (C:=fun dr=>ah P dr (some false) (f % 4096) (.agg cap::l) h n (fun v h'=>v.seq fun v=>KK 0 (iW o.d (qA (some false) v) m) h') (fun _ _ _=>False)) q)
        rw[V.seq_eq] at hk
        exact un rfl hk
      ·exact q.elim
     ·exact q.elim
    ·split at q
     ·obtain⟨hs,hk⟩:=qJ q
      rw[V.seq_eq] at hk
      exact un rfl hk
     ·obtain⟨_,qb⟩:=q
      exact un (v:=.int 0) rfl (qb rfl)
theorem TG{N pn nx n:Nat}{KK:Nat->Fm->Hz->Prop}{s:AS}{o:aO}{dr:Bool}(hl:s.fr.length=N)(hd: ∀ i,o.d=some i->i<N)(R:Rp m s.fr)(hh:s.hp=h.aj)(hp:s.pin=pn)(hn:s.nx=nx)
  (q:opZ P dr nx n o KK m h):(gv o.g s=some true/\jU o s/\(mg P (o.dr dr) n o.d o.op (mkK o s (Kz N pn nx (KK 0))) s\/ZM P dr n o.d o.op (fun s'=> ∃ k,Kz N pn (nx+k) (KK k) s') s))\/(gv o.g s=some false/\Kz N pn nx (KK 0) (s.put o.d T.un)):=by
 unfold opZ at q
 cases had:o.ad with
 |false =>
  rw[had] at q
  rcases PI hl hd R hh hp hn q with ⟨h1,h2,h3⟩|h1
  ·exact .inl ⟨h1,h2,h3.imp (iF fun s' _ _ h=>⟨fun e=>(by rw[had] at e; cases e),h⟩) id⟩
  ·exact .inr h1
 |true =>
  rw[had] at q
  simp only at q
  unfold adZ at q
  split at q
  ·rename_i f xs eo eg
   cases hf:(o.fl&&Jr nx o m) with
   |false=>rw[hf] at q; exact q.elim
   |true =>
    rw[hf] at q
    simp only[cond_true] at q
    rw[Bool.and_eq_true] at hf
    have hfl:jU o s:=Nk R (by rw[hn]; exact hf.2)
    refine .inl ⟨by rw[eg]; rfl,hfl,.inl ?_⟩
    split at q
    ·rename_i l sd hb
     obtain⟨hs,q⟩:=qJ q
     have ed:o.dr dr=false:=by unfold aO.dr; rw[eo,hf.1]; cases dr<;>rfl
     rw[ed,eo]
     show aK P f (xs.map s.ev) s.hp n _
     rw[tZ R hb (hs (.inl rfl)),hh]
     have hx: ∀ {h':Hz} {s':AS},s'.hp=h'.aj->(h'=h\/ ∃ o,h'=(n,some o)::h/\h.get n=none)-> ∀ i ob,s.hp i=some ob->s'.hp i=some ob:=by
      intro h' s' e1 e2 i ob hi
      rw[e1]
      rw[hh] at hi
      rcases e2 with rfl|⟨o',rfl,hn0⟩
      ·exact hi
      ·rw[bF]
       have hne:i≠n:=by
        rintro rfl
        simp only[Hz.aj,hn0] at hi; cases hi
       simp only[upd,if_neg hne]; exact hi
     rcases q.ok with q|⟨_,e,_⟩|⟨_,_,hn0,q⟩
     ·refine aK.mono q ?_
      rintro t hp' ⟨v,h',e1,e2,e3,hk⟩
      rw[V.seq_eq] at hk
      subst e2
      exact⟨(fun e=>by cases e),fun _=>hx rfl (.inl (e3 rfl).1),Kz.put (v:=v) hl hd R hp hn e1 hk⟩
     ·cases e
     ·refine aK.mono q ?_
      rintro t hp' ⟨v,o',e1,e2,hk⟩
      rw[V.seq_eq] at hk
      subst e2
      exact⟨(fun e=>by cases e),fun _=>hx rfl (.inr ⟨o',rfl,hn0⟩),Kz.put (v:=v) hl hd R hp hn e1 hk⟩
    ·exact q.elim
  ·exact q.elim
theorem Nl{N pn ml:Nat}{K:Fm->Hz->Nat->Prop}{dr:Bool}: ∀ {nx:Nat} {ops:List aO} {i:Nat} {m:Fm} {h:Hz} {s:AS},KH N ops=true->s.fr.length=N->Rp m s.fr->s.hp=h.aj->s.pin=pn->s.nx=nx ->
  Nj P dr ml nx K ops i m h->pV P dr ml (fun s=> ∃ m h,s.fr.length=N/\Rp m s.fr/\s.hp=h.aj/\s.pin=pn/\K m h s.nx) ops i s:=by
 intro nx ops
 induction ops generalizing nx with
 |nil =>
  intro i m h s _ hl R hh hp hn q
  exact⟨m,h,hl,R,hh,hp,by show K m h (s.nx+ml); rw[hn]; exact q⟩
 |cons o r ih =>
  intro i m h s hd hl R hh hp hn q
  simp only[KH,Bool.and_eq_true] at hd
  have hd1: ∀ j,o.d=some j->j<N:=fun j e=>by
   have:=hd.1
   rw[e] at this
   simpa using this
  simp only[pV]
  rw[AO]
  have next: ∀ s',s'.nx=s.nx->s'.pin=s.pin->Kz N pn nx (Nj P dr ml nx K r (i+1)) s'->pV P dr ml (fun s=> ∃ m h,s.fr.length=N/\Rp m s.fr/\s.hp=h.aj/\s.pin=pn/\K m h s.nx) r (i+1) s':=by
   rintro s' _ _ ⟨m',h',a1,a2,a3,a4,a5,a6⟩
   exact ih hd.2 a1 a2 a3 a4 a5 a6
  have abQ: ∀ s',(∃ k,Kz N pn (nx+k) (Nj P dr ml (nx+k) K r (i+1)) s')->pV P dr ml (fun s=> ∃ m h,s.fr.length=N/\Rp m s.fr/\s.hp=h.aj/\s.pin=pn/\K m h s.nx) r (i+1) s':=by
   rintro s' ⟨k,m',h',a1,a2,a3,a4,a5,a6⟩
   exact ih hd.2 a1 a2 a3 a4 a5 a6
  rcases TG hl hd1 R hh hp hn q with ⟨h1,h2,h3⟩|⟨h1,h2⟩
  ·refine .inl ⟨h1,h2,?_⟩
   rw[hn]
   exact h3.imp (iF fun s' a b c=>⟨c.1,next s' a b c.2⟩) (MW abQ)
  ·exact .inr ⟨h1,next _ (fE _ _ _) (gy _ _ _) h2⟩
theorem mF{N pn:Nat}: ∀ {c:dP} {Q:Qz} {m:Fm} {h:Hz} {s:AS},oz N c=true->s.fr.length=N->Rp m s.fr->s.hp=h.aj->s.pin=pn->az P N pn c Q m h s.nx->aw P c (Lift N pn Q) s:=by
 intro c
 induction c with
 |skip=>intro Q m h s _ hl R hh hp q; exact⟨m,h,hl,R,hh,hp,q⟩
 |reg dr ops =>
  intro Q m h s hd hl R hh hp q
  exact Nl hd hl R hh hp rfl q
 |seq a b ia ib =>
  intro Q m h s hd hl R hh hp q
  simp only[oz,Bool.and_eq_true] at hd
  simp only[aw]
  refine jA ?_ (ia hd.1 hl R hh hp q)
  rintro e s' ⟨m',h',b1,b2,b3,b4,b5⟩
  cases e with
  |normal=>exact ib hd.2 b1 b2 b3 b4 b5
  |exit j=>exact⟨m',h',b1,b2,b3,b4,b5⟩
  |ret=>exact⟨m',h',b1,b2,b3,b4,b5⟩
 |cond c a b ia ib =>
  intro Q m h s hd hl R hh hp q
  simp only[oz,Bool.and_eq_true] at hd
  simp only[az] at q
  simp only[aw]
  split at q
  ·rename_i t e
   rw[R.ev e]
   obtain⟨q1,q2⟩:=q
   exact⟨fun e=>ia hd.1 hl R hh hp (q1 e),fun e=>ib hd.2 hl R hh hp (q2 e)⟩
  ·exact q.elim
 |blk id b ib =>
  intro Q m h s hd hl R hh hp q
  simp only[aw]
  refine jA ?_ (ib hd hl R hh hp q)
  rintro e s' ⟨m',h',b1,b2,b3,b4,b5⟩
  cases e with
  |normal=>exact⟨m',h',b1,b2,b3,b4,b5⟩
  |ret=>exact⟨m',h',b1,b2,b3,b4,b5⟩
  |exit j =>
   simp only at b5 ⊢
   by_cases e:j=id
   ·subst e; simp at b5 ⊢; exact⟨m',h',b1,b2,b3,b4,b5⟩
   ·have e1:Nat.beq j id=false:=by
     cases hb:Nat.beq j id with
     |false=>rfl
     |true=>exact absurd (iV hb) e
    have e2:(j==id)=false:=by simpa using e
    rw[e1] at b5; rw[e2]
    exact⟨m',h',b1,b2,b3,b4,b5⟩
 |exit i=>intro Q m h s _ hl R hh hp q; exact⟨m,h,hl,R,hh,hp,q⟩
 |ret=>intro Q m h s _ hl R hh hp q; exact⟨m,h,hl,R,hh,hp,q⟩
 |loop b ib =>
  intro Q m h s _ hl R hh hp q
  have:=q.ok s.fr hl R
  rw[<- hh,<- hp] at this
  simp only[aw]
  rw[hp] at this
  have e:(⟨s.fr,s.hp,s.nx,pn⟩:AS)=s:=by rw[<- hp]
  rw[e] at this
  exact this
end
end Go.Ab
