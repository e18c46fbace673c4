/-
 Three laws in use. No condition.
-/
import Derived.Test.YtiakcepnlcpanaaGreatDoorLd
import Derived.Test.YtiakcepnlcpanaaGreatDoorLc
namespace Go.Ab
theorem fJ{l:List T}:T.dh l=true↔ ∀ t∈l,t.free=true:=by
 induction l with
 |nil=>simp[T.dh]
 |cons t ts ih=>simp[T.dh,ih]
theorem DN.trans{s s' s'':AS}(h:DN s s')(h':DN s' s''):DN s s'':=by
 induction h' with
 |refl=>exact h
 |slot a _ ih=>exact .slot a ih
 |cell a _ ih=>exact .cell a ih
 |take a _ ih=>exact .take a ih
 |fz a _ ih=>exact .fz a ih
theorem PV{p:Nat->Prop}: ∀ n,p n-> ∃ m,p m/\ ∀ k,p k->m<=k:=by
 intro n
 induction n using Nat.strongRecOn with
 |ind n ih =>
  intro hn
  by_cases h: ∃ k,k<n/\p k
  ·obtain⟨k,h1,h2⟩:=h; exact ih k h1 h2
  ·exact⟨n,hn,fun k hk=>Nat.le_of_not_lt fun hlt=>h ⟨k,hlt,hk⟩⟩
inductive Dat where
 |lin (x:Zx)
 |UL (x:Ci)
 |rule (x:Rule)
 |eU (x:aW)
 |cnt (x:Cnt)
 |prop (x:Prop')
 |clause (x:Clause)
 |elem (x:Elem)
inductive Rw where
 |ints (l:List Int)
 |bools (l:List Bool)
 |strs (l:List Str)
 |mZ (l:List (List Int))
 |zI (l:List Zx)
 |qw (l:List Ci)
 |rules (l:List Rule)
 |cnts (l:List Cnt)
 |clauses (l:List Clause)
 |elems (l:List Elem)
 |nil
inductive V where
 |int (n:Int)
 |bool (b:Bool)
 |u8 (n:Int)
 |str (s:Str)
 |dat (d:Dat)
 |agg (l:List V)
 |row (k:Nat) (full:Bool) (r:Rw)
 |xO (k:Nat) (full:Bool) (l:List V)
 |ref (k:Nat) (v:V)
 |own (i:Nat)
 |ptr (i j off:Nat)
 |nC (i lo hi:Nat)
 |fn (f:FuncId) (cap:List V)
 |dM (l:List V)
 |cnd (b:Bool) (v:V)
 |raw (t:T)
def Dat.aH:Dat->T
 | .lin x=>PS x
 | .UL x=>NH x
 | .rule x=>FH x
 | .eU x=>Qm x
 | .cnt x=>PU x
 | .prop x=>Wn x
 | .clause x=>kT x
 | .elem x=>fU x
def Dat.kd:Dat->Nat
 | .lin _=>5
 | .UL _=>7
 | .rule _=>19
 | .eU _=>11
 | .cnt _=>3
 | .prop _=>7
 | .clause _=>4
 | .elem _=>3
def Rw.aS:Rw->List T
 | .ints l=>l.map T.int
 | .bools l=>l.map T.bool
 | .strs l=>l.map eS
 | .mZ l=>l.map Go.Ab.ints
 | .zI l=>l.map PS
 | .qw l=>l.map NH
 | .rules l=>l.map FH
 | .cnts l=>l.map PU
 | .clauses l=>l.map kT
 | .elems l=>l.map fU
 | .nil=>[]
mutual
def V.aH:V->T
 | .int n=>.int n
 | .bool b=>.bool b
 | .u8 n=>.lit (.int .u8 n)
 | .str s=>eS s
 | .dat d=>d.aH
 | .agg l=>.agg (V.aS l)
 | .row k f r=>.sl k f r.aS
 | .xO k f l=>.sl k f (V.aS l)
 | .ref k v=>.ref k v.aH
 | .own i=>.own i
 | .ptr i j off=>.ptr i j off
 | .nC i lo hi=>.nC i lo hi
 | .fn f cap=>.fn f (V.aS cap)
 | .dM l=>.dM (V.aS l)
 | .cnd b v=>bif b then v.aH else T.un
 | .raw t=>t
def V.aS:List V->List T
 |[]=>[]
 |v::r=>v.aH::V.aS r
end
def Dat.cells:Dat->List V
 | .lin x=>[.int x.c,.int x.n,.int x.t,.int x.f]
 | .UL x=>[.int x.message,.int x.IL,.int x.bound.c,.int x.bound.n,.int x.bound.t,.int x.bound.f]
 | .rule x=>[.str x.name,.int x.kind,.int x.fr,.int x.to,.int x.gU,.int x.Bl,.row 0 false (.ints x.response),.row 7 false (.qw x.guards),.row 0 false (.ints x.ex),.row 0 false (.ints x.all),.int x.read,.int x.write,.row 0 false (.ints x.send),.int x.pos,.row 0 false (.ints x.left),.row 0 false (.ints x.right),.row 0 false (.ints x.parent),.int x.direction]
 | .eU x=>[.str x.name,.int x.topology,.row 0 false (.strs x.states),.row 0 false (.strs x.messages),.row 0 false (.strs x.values),.int x.fault,.row 5 false (.zI x.eX),.row 0 false (.ints x.initial),.row 0 false (.ints x.leader),.row 19 false (.rules x.rules)]
 | .cnt x=>[.row 0 false (.ints x.states),.int x.least]
 | .prop x=>[.str x.name,.int x.kind,.row 0 false (.ints x.start),.row 3 false (.cnts x.bad),.row 0 false (.ints x.adjacent),.row 0 false (.ints x.goal)]
 | .clause x=>[.row 0 false (.mZ x.each),.row 0 false (.ints x.values),.row 0 false (.ints x.some)]
 | .elem x=>[.int x.value,.row 0 false (.ints x.counts)]
theorem Dat.D7(d:Dat):d.aH= .agg (V.aS d.cells):=by cases d<;>rfl
theorem Dat.aaR(d:Dat):d.aH.kd=d.kd:=by cases d<;>rfl
def Rw.len:Rw->Nat
 | .ints l=>l.length
 | .bools l=>l.length
 | .strs l=>l.length
 | .mZ l=>l.length
 | .zI l=>l.length
 | .qw l=>l.length
 | .rules l=>l.length
 | .cnts l=>l.length
 | .clauses l=>l.length
 | .elems l=>l.length
 | .nil=>0
def Rw.lenV:Rw->V
 | .ints l=>.int l.length
 | .bools l=>.int l.length
 | .strs l=>.int l.length
 | .mZ l=>.int l.length
 | .zI l=>.int l.length
 | .qw l=>.int l.length
 | .rules l=>.int l.length
 | .cnts l=>.int l.length
 | .clauses l=>.int l.length
 | .elems l=>.int l.length
 | .nil=>.int 0
def Rw.rng(n:Int):Rw->Prop
 | .ints l=>0<=n/\n<l.length
 | .bools l=>0<=n/\n<l.length
 | .strs l=>0<=n/\n<l.length
 | .mZ l=>0<=n/\n<l.length
 | .zI l=>0<=n/\n<l.length
 | .qw l=>0<=n/\n<l.length
 | .rules l=>0<=n/\n<l.length
 | .cnts l=>0<=n/\n<l.length
 | .clauses l=>0<=n/\n<l.length
 | .elems l=>0<=n/\n<l.length
 | .nil=>False
def Rw.qN(n:Int):Rw->Prop
 | .ints l=>0<=n/\n<=l.length
 | .bools l=>0<=n/\n<=l.length
 | .strs l=>0<=n/\n<=l.length
 | .mZ l=>0<=n/\n<=l.length
 | .zI l=>0<=n/\n<=l.length
 | .qw l=>0<=n/\n<=l.length
 | .rules l=>0<=n/\n<=l.length
 | .cnts l=>0<=n/\n<=l.length
 | .clauses l=>0<=n/\n<=l.length
 | .elems l=>0<=n/\n<=l.length
 | .nil=>n=0
def Rw.get(i:Nat):Rw->V
 | .ints l=>.int (l.getD i 0)
 | .bools l=>.bool (l.getD i false)
 | .strs l=>.str (l.getD i [])
 | .mZ l=>.row 0 false (.ints (l.getD i []))
 | .zI l=>.dat (.lin (l.getD i default))
 | .qw l=>.dat (.UL (l.getD i default))
 | .rules l=>.dat (.rule (l.getD i default))
 | .cnts l=>.dat (.cnt (l.getD i default))
 | .clauses l=>.dat (.clause (l.getD i default))
 | .elems l=>.dat (.elem (l.getD i default))
 | .nil=>.raw .any
def Rw.take(i:Nat):Rw->Rw
 | .ints l=>.ints (l.take i)
 | .bools l=>.bools (l.take i)
 | .strs l=>.strs (l.take i)
 | .mZ l=>.mZ (l.take i)
 | .zI l=>.zI (l.take i)
 | .qw l=>.qw (l.take i)
 | .rules l=>.rules (l.take i)
 | .cnts l=>.cnts (l.take i)
 | .clauses l=>.clauses (l.take i)
 | .elems l=>.elems (l.take i)
 | .nil=>.nil
def Rw.drop(i:Nat):Rw->Rw
 | .ints l=>.ints (l.drop i)
 | .bools l=>.bools (l.drop i)
 | .strs l=>.strs (l.drop i)
 | .mZ l=>.mZ (l.drop i)
 | .zI l=>.zI (l.drop i)
 | .qw l=>.qw (l.drop i)
 | .rules l=>.rules (l.drop i)
 | .cnts l=>.cnts (l.drop i)
 | .clauses l=>.clauses (l.drop i)
 | .elems l=>.elems (l.drop i)
 | .nil=>.nil
def Rw.app:Rw->Rw->Option Rw
 |r,.nil=>some r
 | .nil,r=>some r
 | .ints a,.ints b=>some (.ints (a++b))
 | .bools a,.bools b=>some (.bools (a++b))
 | .strs a,.strs b=>some (.strs (a++b))
 | .mZ a,.mZ b=>some (.mZ (a++b))
 | .zI a,.zI b=>some (.zI (a++b))
 | .qw a,.qw b=>some (.qw (a++b))
 | .rules a,.rules b=>some (.rules (a++b))
 | .cnts a,.cnts b=>some (.cnts (a++b))
 | .clauses a,.clauses b=>some (.clauses (a++b))
 | .elems a,.elems b=>some (.elems (a++b))
 |_,_=>none
def Rw.kd:Rw->Nat
 | .ints _=>0
 | .bools _=>0
 | .strs _=>0
 | .mZ _=>0
 | .zI _=>5
 | .qw _=>7
 | .rules _=>19
 | .cnts _=>3
 | .clauses _=>4
 | .elems _=>3
 | .nil=>0
def V.one:V->Option Rw
 | .int n=>some (.ints [n])
 | .bool b=>some (.bools [b])
 | .str s=>some (.strs [s])
 | .row 0 false (.ints l)=>some (.mZ [l])
 | .dat (.lin x)=>some (.zI [x])
 | .dat (.UL x)=>some (.qw [x])
 | .dat (.rule x)=>some (.rules [x])
 | .dat (.cnt x)=>some (.cnts [x])
 | .dat (.clause x)=>some (.clauses [x])
 | .dat (.elem x)=>some (.elems [x])
 | .agg [.int a,.row 0 false (.ints c)]=>some (.elems [⟨a,c⟩])
 | .agg [.row 0 false (.ints c),.int a]=>some (.cnts [⟨c,a⟩])
 | .agg [.row 0 false (.mZ e),.row 0 false (.ints v),.row 0 false (.ints s)]=>some (.clauses [⟨e,v,s⟩])
 |_=>none
def Rw.Wq:List V->Option Rw
 |[]=>some .nil
 |v::r=>match v.one,Rw.Wq r with
  |some a,some b=>a.app b
  |_,_=>none
inductive OV where
 |row (ty k:Nat) (r:Rw) (x:List V)
 |box (ty k:Nat) (v:V)
 |map (ty:Nat) (es:List (Int×List Bool)) (x:List (Int×V))
def vJ(e:Int×List Bool):T:=.dM [.int e.1,.sl 0 false (e.2.map T.bool)]
def EL(e:Int×V):T:=.dM [.int e.1,e.2.aH]
def OV.aG:OV->Ob
 | .row ty k r x=>⟨ty,k,r.aS++V.aS x⟩
 | .box ty k v=>⟨ty,k,[v.aH]⟩
 | .map ty es x=>⟨ty,fF,es.map vJ++x.map EL⟩
abbrev Fm:=List (Nat×V)
def Fm.get(i:Nat):Fm->Option V
 |[]=>none
 |(j,v)::r=>bif Nat.beq j i then some v else Fm.get i r
abbrev Hz:=List (Nat×Option OV)
def Hz.get(i:Nat):Hz->Option OV
 |[]=>none
 |(j,o)::r=>bif Nat.beq j i then o else Hz.get i r
def Hz.aj(h:Hz):Hp:=fun i=>(h.get i).map OV.aG
mutual
def zO:T->V
 | .lit (.int .i64 n)=>.int n
 | .lit (.int .u8 n)=>.u8 n
 | .lit (.bool b)=>.bool b
 | .lit (.string b)=>.str b.data.toList
 | .sl k f []=>.row k f .nil
 | .agg l=>.agg (Wq l)
 | .fn f l=>.fn f (Wq l)
 |t=>.raw t
def Wq:List T->List V
 |[]=>[]
 |t::r=>zO t::Wq r
end
def V.kd:V->Option Nat
 | .dat d=>some d.kd
 | .agg l=>some (l.length+1)
 | .cnd _ _=>none
 | .raw _=>none
 |_=>some 0
def V.cells:V->Option (List V)
 | .dat d=>some d.cells
 | .agg l=>some l
 | .cnd _ _=>none
 | .raw _=>none
 |v=>some [v]
def V.kN(h:Hz):V->Bool
 | .own i=>(h.get i).isSome
 | .ptr i _ _=>(h.get i).isSome
 | .nC i _ _=>(h.get i).isSome
 | .cnd _ _=>false
 | .raw _=>false
 | .dM _=>false
 |_=>true
def V.part(off:Nat):Nat->V->Option V
 |0,.dat d=>d.cells[off]?
 |0,.agg l=>l[off]?
 |k+1,.dat (.UL x)=>bif (Nat.beq off 2)&&(Nat.beq k 4) then some (.dat (.lin x.bound)) else none
 |k+1,.agg l=>some (.agg ((l.drop off).take k))
 |_,_=>none
inductive VC(p k:Prop):Prop where
 |mk:p->k->VC p k
inductive Fork(b:Bool)(x y:Prop):Prop where
 |mk:(b=true->x)->(b=false->y)->Fork b x y
inductive Sd where
 |no
 |yes (p:Prop)
def Sd.holds:Sd->Prop
 | .no=>True
 | .yes p=>p
def Sd.and:Sd->Sd->Sd
 | .no,b=>b
 |a,.no=>a
 | .yes p,.yes q=>.yes (p/\q)
def Sd.imp(t:Bool)(b:Bool):Sd->Sd
 | .no=>.no
 | .yes p=>.yes (t=b->p)
def Sd.vc(g:Option Bool)(k:Prop):Sd->Prop
 | .no=>k
 | .yes p=>match g with
  |none=>VC p k
  |some b=>VC (b=true->p) k
def V.bare:V->V×Sd
 | .cnd c v=>(v,.yes (c=true))
 |v=>(v,.no)
mutual
def V.free:V->Bool
 | .own _=>false
 | .ptr _ _ _=>false
 | .nC _ _ _=>false
 | .cnd _ _=>false
 | .raw t=>t.free
 | .agg l=>V.dh l
 | .fn _ l=>V.dh l
 | .dM l=>V.dh l
 |_=>true
def V.dh:List V->Bool
 |[]=>true
 |v::r=>V.free v&&V.dh r
end
def zJ(m:Fm):X->Option V
 | .t n=>m.get n
 | .c t=>some (zO t)
def evL(m:Fm):List X->Option (List V)
 |[]=>some []
 |x::r=>match zJ m x,evL m r with
  |some v,some l=>some (v::l)
  |_,_=>none
abbrev xX:=Option (V×Sd)
def KO(m:Fm)(x:X)(f:V->xX):xX :=
 match zJ m x with
 |some v=>match v.bare with
  |(u,s)=>match f u with
   |some (r,s')=>some (r,s.and s')
   |none=>none
 |none=>none
def Zy(m:Fm)(x y:X)(f:V->V->xX):xX:=KO m x fun u=>KO m y fun v=>f u v
def okI(n:Int):Prop:= -9223372036854775808<=n/\n<9223372036854775808
def adt(a b:Int):Int:=a.fdiv (2 ^ min b.toNat 64)
def aaS(op:BinOp):V->V->xX
 | .int a,.int b=>match op with
  | .add=>some (.int (a+b),.yes (okI (a+b)))
  | .sub=>some (.int (a-b),.yes (okI (a-b)))
  | .mul=>some (.int (a*b),.yes (okI (a*b)))
  | .eql=>some (.bool (a==b),.no)
  | .neq=>some (.bool (a !=b),.no)
  | .lss=>some (.bool (decide (a<b)),.no)
  | .leq=>some (.bool (decide (a<=b)),.no)
  | .gtr=>some (.bool (decide (b<a)),.no)
  | .geq=>some (.bool (decide (b<=a)),.no)
  |_=>none
 | .u8 a,.u8 b=>match op with
  | .eql=>some (.bool (a==b),.no)
  | .neq=>some (.bool (a !=b),.no)
  | .lss=>some (.bool (decide (a<b)),.no)
  | .leq=>some (.bool (decide (a<=b)),.no)
  | .gtr=>some (.bool (decide (b<a)),.no)
  | .geq=>some (.bool (decide (b<=a)),.no)
  |_=>none
 | .str a,.str b=>match op with
  | .eql=>some (.bool (a==b),.no)
  | .neq=>some (.bool (!(a==b)),.no)
  | .add=>some (.str (a++b),.yes (a.length+b.length<=9223372036854775807))
  |_=>none
 | .raw (.lit (.int .u64 a)),.raw (.lit (.int .u64 b))=>match op with
  | .shr=>some (.raw (.lit (.int .u64 (adt a b))),.yes (0<=b))
  | .and=>some (.raw (.lit (.int .u64 (aao .u64 a b))),.no)
  | .eql=>some (.bool (a==b),.no)
  | .geq=>some (.bool (decide (b<=a)),.no)
  |_=>none
 |_,_=>none
def zu:X->Bool
 | .c (.lit (.bool true))=>true
 |_=>false
def wG:X->Bool
 | .c (.lit (.bool false))=>true
 |_=>false
def Zz(t:Bool)(xa xb:X):V->V->Option V
 | .bool x,.bool y=>bif zu xa then some (.bool (t||y)) else bif wG xb then some (.bool (t&&x)) else some (.bool (bif t then x else y))
 | .int x,.int y=>some (.int (bif t then x else y))
 | .str x,.str y=>some (.str (bif t then x else y))
 |_,_=>none
def Ws(t:Bool)(xa xb:X)(a b:V×Sd):xX :=
 match a,b with
 |(a,sa),(b,sb)=>match Zz t xa xb a b with
  |some v=>some (v,(sa.imp t true).and (sb.imp t false))
  |none=>none
def dL{α:Type}(b:Bool)(x:Option α):Option α:=bif b then x else none
def V.PW(k:Nat):Option V->xX
 |some u=>some (.ref k u,.no)
 |none=>none
def V.Fj:Option V->xX
 |some u=>some (u,.no)
 |none=>none
def faZ(h:Hz)(off k:Nat):V->xX
 | .ref kt v=>dL (!(Nat.beq kt 0)&&mF (aY kt) off k) (V.PW k (v.part off k))
 | .ptr i j o=>dL (h.get i).isSome (some (.ptr i j (o+off),.no))
 |_=>none
def fvZ(off k:Nat)(v:V):xX :=
 match v.kd with
 |some kt=>dL (!(Nat.beq kt 0)&&mF (aY kt) off k) (V.Fj (v.part off k))
 |none=>none
def aaT:List V->Nat->Option V
 |[],_=>none
 |v::_,0=>some v
 |_::r,n+1=>aaT r n
def iaZ(h:Hz)(k:Nat):V->V->xX
 | .xO k' _ l,.int n=>match aaT l n.toNat with
  |some v=>dL (Nat.beq k' k) (some (.ref k v,.yes (0<=n)))
  |none=>none
 | .row k' _ r,.int n=>dL (Nat.beq k' k) (some (.ref k (r.get n.toNat),.yes (r.rng n)))
 | .own o,.int n=>match h.get o with
  |some (.row _ k' r [])=>dL (Nat.beq k' k) (some (.ptr o n.toNat 0,.yes (r.rng n)))
  |_=>none
 | .nC o lo hi,.int n=>match h.get o with
  |some (.row _ k' _ [])=>dL (Nat.beq k' k) (some (.ptr o (lo+n.toNat) 0,.yes (0<=n/\n<(hi-lo:Nat))))
  |_=>none
 |_,_=>none
def chZ:V->V->xX
 | .str s,.int n=>some (.u8 (s.getD n.toNat 0).toNat,.yes (0<=n/\n<s.length))
 | .str s,.u8 n=>some (.u8 (s.getD n.toNat 0).toNat,.yes (0<=n/\n<s.length))
 |_,_=>none
def ldB(k j off ko:Nat)(v:V):xX :=
 bif Nat.beq j 0 then(bif Nat.beq off 0&&Nat.beq ko k then some (v,.no) else dL (!(Nat.beq ko 0)&&mF (aY ko) off k) (V.Fj (v.part off k))) else none
def ldR(k j off ko:Nat)(r:Rw):xX :=
 bif Nat.beq off 0&&Nat.beq ko k then some (r.get j,.yes (r.rng j)) else
  match (r.get j).part off k with
  |some u=>dL (!(Nat.beq ko 0)&&mF (aY ko) off k) (some (u,.yes (r.rng j)))
  |none=>none
def ldZ(h:Hz)(k:Nat):V->xX
 | .ref k' v=>dL (Nat.beq k' k&&Nat.blt 0 (aY k)) (some (v,.no))
 | .ptr i j off=>match h.get i with
  |some (.box _ ko v)=>ldB k j off ko v
  |some (.row _ ko r [])=>ldR k j off ko r
  |_=>none
 |_=>none
def ncZ(h:Hz):V->xX
 | .ref k v=>some (.ref k v,.no)
 | .ptr i j o=>dL (h.get i).isSome (some (.ptr i j o,.no))
 | .fn f l=>some (.fn f l,.no)
 |_=>none
def aaU(h:Hz)(str:Bool):V->xX
 | .row _ _ r=>dL (!str) (some (r.lenV,.no))
 | .xO _ _ l=>dL (!str) (some (.int l.length,.no))
 | .str s=>dL str (some (.int s.length,.no))
 | .own o=>match h.get o with
  |some (.row _ k r x)=>dL (!str&& !(Nat.beq k fF)) (match x with|[]=>some (r.lenV,.no)|x=>some (.int (r.len+x.length),.no))
  |_=>none
 | .nC o lo hi=>dL (!str&&(h.get o).isSome) (some (.int (hi-lo:Nat),.no))
 |_=>none
def mxZ:V->V->xX
 | .int a,.int b=>some (.int (max a b),.no)
 |_,_=>none
def mnZ:V->V->xX
 | .int a,.int b=>some (.int (min a b),.no)
 |_,_=>none
def zZ(m:Fm):List X->Option (List V×Sd)
 |[]=>some ([],.no)
 |x::r=>match zJ m x,zZ m r with
  |some v,some (l,s)=>match v.bare with|(u,s')=>some (u::l,s'.and s)
  |_,_=>none
def QW:List (Nat×Nat×X)->List V->List V->Option (List V)
 |[],[],z=>some z
 |(off,n,_)::ps,v::vs,z=>match v.cells with
  |some c=>dL (Nat.beq c.length n&&Nat.ble (off+n) z.length) (QW ps vs (z.take off++c++z.drop (off+n)))
  |none=>none
 |_,_,_=>none
def Aa(h:Hz):List V->Bool
 |[]=>true
 |v::r=>v.kN h&&Aa h r
def mkZ(m:Fm)(h:Hz)(z:List T)(ps:List (Nat×Nat×X)):xX :=
 match zZ m (ps.map fun p=>p.2.2) with
 |some (vs,s)=>match QW ps vs (Wq z) with
  |some l=>dL (Aa h vs) (some (.agg l,s))
  |none=>none
 |none=>none
def Gy(k:Nat):List V->Bool
 |[]=>true
 |v::r=>(match v.kd with|some k'=>Nat.beq k' k|none=>false)&&Gy k r
def Wu(n:Nat):List (Nat×X)->List V->List V->Option (List V)
 |[],[],z=>some z
 |(i,_)::ps,v::vs,z=>dL (Nat.blt i n) (Wu n ps vs (z.set i v))
 |_,_,_=>none
def msZ(m:Fm)(h:Hz)(k:Nat)(z:T)(n:Nat)(ps:List (Nat×X)):xX :=
 match zZ m (ps.map fun p=>p.2) with
 |some (vs,s)=>match Wu n ps vs (List.replicate n (zO z)) with
  |some l=>dL ((z.kd==k)&&z.free&&Gy k vs&&Aa h vs&&V.dh vs&&Nat.ble (n*aY k) 16777216&&Nat.blt 0 (aY k))
    (match Rw.Wq l with
    |some r=>some (.row k true r,s)
    |none=>some (.xO k true l,s))
  |none=>none
 |none=>none
def ZA(k k':Nat):Rw->Bool
 | .nil=>true
 |_=>Nat.beq k' k
def H7(m:Fm):Option X->Option (Option V×Sd)
 |none=>some (none,.no)
 |some x=>match zJ m x with
  |some v=>match v.bare with|(u,s)=>some (some u,s)
  |none=>none
def Wv(k k':Nat)(f:Bool)(r:Rw):Option V->Option V->Option V->xX
 |none,none,none=>dL (ZA k k' r) (some (.row k f r,.no))
 |some (.int a),none,none=>dL (ZA k k' r) (some (.row k f (r.drop a.toNat),.yes (r.qN a)))
 |none,some (.int b),none=>dL (ZA k k' r) (some (.row k (f&&decide (b=r.len)) (r.take b.toNat),.yes (r.qN b)))
 |some (.int a),some (.int b),none=>dL (ZA k k' r) (some (.row k false ((r.take b.toNat).drop a.toNat),.yes (0<=a/\a<=b/\r.qN b)))
 |none,some (.int b),some (.int c)=>dL (ZA k k' r) (some (.row k (decide (b=c)) (r.take b.toNat),.yes (0<=b/\b<=c/\r.qN c)))
 |_,_,_=>none
def Wx(k i ko:Nat)(r:Rw):Option V->Option V->Option V->xX
 |some (.int a),none,none=>dL (Nat.beq ko k) (some (.nC i a.toNat r.len,.yes (r.qN a)))
 |none,some (.int b),none=>dL (Nat.beq ko k) (some (.nC i 0 b.toNat,.yes (r.qN b)))
 |some (.int a),some (.int b),none=>dL (Nat.beq ko k) (some (.nC i a.toNat b.toNat,.yes (0<=a/\a<=b/\r.qN b)))
 |_,_,_=>none
def PX(k i ko:Nat)(r:Rw)(xs:List V):Option V->Option V->Option V->xX
 |none,some (.int b),none=>dL (Nat.beq ko k) (some (.nC i 0 b.toNat,.yes (r.qN b)))
 |lo,hi,mx=>match xs with|[]=>Wx k i ko r lo hi mx|_=>none
def slZ(h:Hz)(x:Bool)(k:Nat)(v:V)(lo hi mx:Option V):xX :=
 match v with
 | .row k' f r=>Wv k k' f r lo hi mx
 | .own i=>bif x then(match h.get i with
  |some (.row _ ko r xs)=>PX k i ko r xs lo hi mx
  |_=>none) else none
 |_=>none
def slX(m:Fm)(h:Hz)(b:Bool)(k:Nat)(x:X)(lo hi mx:Option X):xX :=
 KO m x fun v=>match H7 m lo,H7 m hi,H7 m mx with
  |some (lo,s1),some (hi,s2),some (mx,s3)=>match slZ h b k v lo hi mx with
   |some (u,s)=>some (u,s1.and (s2.and (s3.and s)))
   |none=>none
  |_,_,_=>none
def ssZ(s:Str):Option V->Option V->xX
 |some (.int a),none=>some (.str (s.drop a.toNat),.yes (0<=a/\a<=s.length))
 |none,some (.int b)=>some (.str (s.take b.toNat),.yes (0<=b/\b<=s.length))
 |some (.int a),some (.int b)=>some (.str ((s.take b.toNat).drop a.toNat),.yes (0<=a/\a<=b/\b<=s.length))
 |_,_=>none
def ssX(m:Fm)(x:X)(lo hi:Option X):xX :=
 KO m x fun v=>match v,H7 m lo,H7 m hi with
  | .str s,some (lo,s1),some (hi,s2)=>match ssZ s lo hi with
   |some (u,s)=>some (u,s1.and (s2.and s))
   |none=>none
  |_,_,_=>none
def exZ(i:Nat):V->xX
 | .dM l=>match l[i]? with|some v=>some (v,.no)|none=>none
 |_=>none
def aaV(ne:Bool)(n:Nat):V->V->xX
 | .dat (.lin x),.dat (.lin y)=>dL (Nat.beq n 4) (some (.bool (bif ne then !(x==y) else x==y),.no))
 | .dat (.UL x),.dat (.UL y)=>dL (Nat.beq n 6) (some (.bool (bif ne then !(x==y) else x==y),.no))
 |_,_=>none
def vS(n:Int):List (Int×List Bool)->Option (List Bool)
 |[]=>none
 |(m,v)::r=>bif n==m then some v else vS n r
def mfZ(m:Fm)(h:Hz)(f:FuncId)(cap:List X):xX :=
 match zZ m cap with
 |some (l,s)=>dL (Aa h l&&Gy 0 l&&Nat.blt f 4096) (some (.fn f l,s))
 |none=>none
def mbZ(f:FuncId):V->xX
 | .agg l=>dL (Nat.blt f 4096) (some (.fn (f+4096) l,.no))
 | .dat d=>dL (Nat.blt f 4096) (some (.fn (f+4096) d.cells,.no))
 |_=>none
def aaW:V->xX
 | .row _ true r=>some (r.lenV,.no)
 |_=>none
def qz(m:Fm)(h:Hz):nO->xX
 | .mv x=>match zJ m x with|some v=>some (v,.no)|none=>none
 | .pick c a b=>KO m c fun c=>match c,zJ m a,zJ m b with
  | .bool t,some va,some vb=>Ws t a b va.bare vb.bare
  |_,_,_=>none
 | .bin op x y=>Zy m x y (aaS op)
 | .bb ne x y=>Zy m x y fun x y=>match x,y with
  | .bool a,.bool b=>some (.bool (bif ne then !(a==b) else a==b),.no)
  |_,_=>none
 | .not x=>KO m x fun v=>match v with| .bool b=>some (.bool !b,.no)|_=>none
 | .conv .i64 x=>KO m x fun v=>match v with
  | .int n=>some (.int n,.yes (okI n))
  | .u8 n=>some (.int n,.yes (okI n))
  | .raw (.lit (.int .u64 n))=>some (.int n,.yes (okI n))
  |_=>none
 | .conv .u64 x=>KO m x fun v=>match v with
  | .int n=>some (.raw (.lit (.int .u64 n)),.yes (0<=n/\n<18446744073709551616))
  |_=>none
 | .conv .u8 x=>KO m x fun v=>match v with
  | .raw (.lit (.int .u64 n))=>some (.u8 n,.yes (0<=n/\n<256))
  |_=>none
 | .fa off k x=>KO m x (faZ h off k)
 | .fv off k x=>KO m x (fvZ off k)
 | .ia k x i=>Zy m x i (iaZ h k)
 | .ch x i=>Zy m x i chZ
 | .ld k x=>KO m x (ldZ h k)
 | .nc x=>KO m x (ncZ h)
 | .len s x=>KO m x (aaU h s)
 | .mx x y=>Zy m x y mxZ
 | .mn x y=>Zy m x y mnZ
 | .mk z ps=>mkZ m h z ps
 | .ms _ k z n ps=>msZ m h k z n ps
 | .sl k x lo hi mx=>slX m h false k x lo hi mx
 | .MX k x lo hi mx=>slX m h true k x lo hi mx
 | .ss x lo hi=>ssX m x lo hi
 | .ex x i=>KO m x (exZ i)
 | .mf f cap=>mfZ m h f cap
 | .eqs ne n x y=>Zy m x y (aaV ne n)
 | .J7 x=>KO m x aaW
 | .mb f x=>KO m x (mbZ f)
 |_=>none
theorem ZB(b:ByteArray):eS b.data.toList= .lit (.string b):=by
 unfold eS bs; simp
mutual
theorem xB:(t:T)->(zO t).aH=t
 | .lit v=>by
  cases v with
  |int k n=>cases k<;>simp[zO,V.aH]
  |bool b=>simp[zO,V.aH]
  |string b=>simp only[zO,V.aH]; exact ZB b
  |_=>simp[zO,V.aH]
 | .agg l=>by simp only[zO,V.aH]; rw[zx l]
 | .sl k f l=>by cases l<;>simp[zO,V.aH,Rw.aS]
 | .ref k t=>by simp[zO,V.aH]
 | .own i=>by simp[zO,V.aH]
 | .ptr i j k=>by simp[zO,V.aH]
 | .nC i j k=>by simp[zO,V.aH]
 | .fn f l=>by simp only[zO,V.aH]; rw[zx l]
 | .dM l=>by simp[zO,V.aH]
 | .any=>by simp[zO,V.aH]
theorem zx:(l:List T)->V.aS (Wq l)=l
 |[]=>rfl
 |t::r=>by simp only[Wq,V.aS]; rw[xB t,zx r]
end
theorem nP(l:List V):V.aS l=l.map V.aH:=by
 induction l with
 |nil=>rfl
 |cons v r ih=>simp[V.aS,ih]
theorem gy(l:List V):(V.aS l).length=l.length:=by rw[nP]; simp
theorem xC(a b:List V):V.aS (a++b)=V.aS a++V.aS b:=by simp[nP]
theorem H8(a:List V)(n:Nat):V.aS (a.take n)=(V.aS a).take n:=by simp[nP]
theorem H9(a:List V)(n:Nat):V.aS (a.drop n)=(V.aS a).drop n:=by simp[nP]
def Rp(m:Fm)(fr:List T):Prop:= ∀ i v,m.get i=some v->fr[i]? =some v.aH
theorem Rp.getD{m:Fm}{fr:List T}(R:Rp m fr){i:Nat}{v:V}{d:T}(h:m.get i=some v):fr.getD i d=v.aH:=by
 rw[List.getD_eq_getElem?_getD,R i v h]; rfl
theorem Rp.ev{m:Fm}{s:AS}(R:Rp m s.fr){x:X}{v:V}(h:zJ m x=some v):s.ev x=v.aH:=by
 cases x with
 |t n=>exact R.getD h
 |c t=>simp only[zJ,Option.some.injEq] at h; subst h; exact(xB t).symm
theorem jm{v u:V}{s:Sd}(h:v.bare=(u,s))(hs:s.holds):v.aH=u.aH:=by
 unfold V.bare at h
 split at h
 ·cases h; simp only[Sd.holds] at hs; simp[V.aH,hs]
 ·cases h; rfl
theorem Sd.mY{a b:Sd}:(a.and b).holds↔a.holds/\b.holds:=by cases a<;>cases b<;>simp[Sd.and,Sd.holds]
theorem Sd.JD{t b:Bool}{s:Sd}:(s.imp t b).holds↔(t=b->s.holds):=by cases s<;>simp[Sd.imp,Sd.holds]
theorem jP{m:Fm}{s:AS}(R:Rp m s.fr){x:X}{f:V->xX}{r:V}{sd:Sd}(h:KO m x f=some (r,sd))(hs:sd.holds): ∃ u s',f u=some (r,s')/\s'.holds/\s.ev x=u.aH:=by
 unfold KO at h
 split at h
 ·rename_i v hv
  split at h
  rename_i u s0 hb
  split at h
  ·rename_i r' s' hf
   cases h
   rw[Sd.mY] at hs
   exact⟨u,s',hf,hs.2,by rw[R.ev hv,jm hb hs.1]⟩
  ·cases h
 ·cases h
theorem xE{m:Fm}{s:AS}(R:Rp m s.fr){x y:X}{f:V->V->xX}{r:V}{sd:Sd}(h:Zy m x y f=some (r,sd))(hs:sd.holds): ∃ u v s',f u v=some (r,s')/\s'.holds/\s.ev x=u.aH/\s.ev y=v.aH:=by
 obtain⟨u,s',h1,h2,h3⟩:=jP R h hs
 obtain⟨v,s'',h4,h5,h6⟩:=jP R h1 h2
 exact⟨u,v,s'',h4,h5,h3,h6⟩
theorem aQ{α:Type}{b:Bool}{x:Option α}{y:α}(h:dL b x=some y):b=true/\x=some y:=by
 cases b<;>simp[dL] at h; exact⟨rfl,h⟩
theorem acu{n:Int}(h1:0<=n)(h2:n<18446744073709551616):IntKind.u64.wrap n=n:=by
 have e:IntKind.u64.wrap n=(if(false&&decide (n % 18446744073709551616>=9223372036854775808))=true then n % 18446744073709551616-18446744073709551616 else n % 18446744073709551616):=rfl
 rw[e]
 simp only[Bool.false_and,Bool.false_eq_true,if_false]
 omega
theorem aaX{n:Int}(h1:0<=n)(h2:n<256):IntKind.u8.wrap n=n:=by
 have e:IntKind.u8.wrap n=(if(false&&decide (n % 256>=128))=true then n % 256-256 else n % 256):=rfl
 rw[e]
 simp only[Bool.false_and,Bool.false_eq_true,if_false]
 omega
theorem QX{n:Int}(h:okI n):IntKind.i64.wrap n=n:=wrap64 h.1 h.2
theorem Rw.eG(r:Rw):r.aS.length=r.len:=by cases r<;>simp[Rw.aS,Rw.len]
theorem Rw.KP(r:Rw):r.lenV= .int r.len:=by cases r<;>rfl
theorem Rw.Cj{n:Int}{r:Rw}:r.rng n↔(0<=n/\n<r.len):=by cases r<;>simp[Rw.rng,Rw.len]<;>omega
theorem Rw.qX{n:Int}{r:Rw}:r.qN n↔(0<=n/\n<=r.len):=by cases r<;>simp[Rw.qN,Rw.len]<;>omega
theorem getD_map'{α:Type}{f:α->T}{l:List α}{i:Nat}{d:α}(h:i<l.length):(l.map f).getD i .any=f (l.getD i d):=by
 simp[List.getD_eq_getElem?_getD,h]
theorem Rw.KQ{r:Rw}{i:Nat}(h:i<r.len):r.aS.getD i .any=(r.get i).aH:=by
 cases r<;>simp only[Rw.len] at h<;>simp only[Rw.aS,Rw.get,V.aH,Dat.aH,Rw.aS]<;>first|exact getD_map' h|omega
theorem Rw.Cm(r:Rw)(n:Nat):(r.take n).aS=r.aS.take n:=by cases r<;>simp[Rw.take,Rw.aS]
theorem Rw.NK(r:Rw)(n:Nat):(r.drop n).aS=r.aS.drop n:=by cases r<;>simp[Rw.drop,Rw.aS]
theorem Rw.KR{a b c:Rw}(h:a.app b=some c):c.aS=a.aS++b.aS:=by
 unfold Rw.app at h
 split at h<;>first|(cases h; done)|(cases h; simp[Rw.aS])
theorem V.YB{v:V}{r:Rw}(h:v.one=some r):r.aS=[v.aH]:=by
 unfold V.one at h
 split at h<;>first|(cases h; done)|(cases h; simp[Rw.aS,V.aH,V.aS,Dat.aH,fU,PU,kT])
theorem Rw.zx: ∀ {l:List V} {r:Rw},Rw.Wq l=some r->r.aS=V.aS l:=by
 intro l
 induction l with
 |nil=>intro r h; cases h; rfl
 |cons v l ih =>
  intro r h
  simp only[Rw.Wq] at h
  split at h
  ·rename_i a b h1 h2
   rw[Rw.KR h,V.YB h1,ih h2]; rfl
  ·cases h
theorem V.KT{v:V}{k:Nat}(h:v.kd=some k):v.aH.kd=k:=by
 cases v with
 |dat d=>cases h; exact Dat.aaR d
 |_=>simp only[V.kd,Option.some.injEq,reduceCtorEq] at h<;>subst h<;>simp[V.aH,T.kd,eS,gy]
theorem V.D8{v:V}{l:List V}(h:v.cells=some l):v.aH.cells=V.aS l:=by
 cases v<;>simp only[V.cells,Option.some.injEq,reduceCtorEq] at h<;>subst h<;>simp[V.aH,Dat.D7,T.cells,eS,V.aS]
theorem Hz.wH{h:Hz}{i:Nat}:(h.aj i).isSome=(h.get i).isSome:=by simp[Hz.aj]
theorem V.wI{h:Hz}{v:V}(hv:v.kN h=true):v.aH.kN h.aj=true:=by
 cases v<;>simp only[V.kN,Bool.false_eq_true] at hv<;>simp[V.aH,T.kN,T.vV,eS,Value.oneCell',Hz.wH,hv]
 rename_i d
 cases d<;>rfl
theorem V.Wy{h:Hz}{v:V}(hv:v.kN h=true)(hk:v.kd=some 0):v.aH.vV h.aj=true:=by
 cases v<;>simp only[V.kN,Bool.false_eq_true] at hv<;>simp only[V.kd,Option.some.injEq,Nat.succ_ne_zero] at hk<;>simp[V.aH,T.vV,eS,Value.oneCell',Hz.wH,hv]
 rename_i d
 cases d<;>cases hk
theorem Dat.free(d:Dat):d.aH.free=true:=by cases d<;>rfl
mutual
theorem V.lX:(v:V)->v.free=true->v.aH.free=true
 | .int _,_=>by simp[V.aH,T.free]
 | .bool _,_=>by simp[V.aH,T.free]
 | .u8 _,_=>by simp[V.aH,T.free]
 | .str _,_=>by simp[V.aH,T.free,eS]
 | .dat d,_=>by simp only[V.aH]; exact d.free
 | .agg l,h=>by simp only[V.aH,T.free]; simp only[V.free] at h; exact V.gY l h
 | .row _ _ _,_=>by simp[V.aH,T.free]
 | .xO _ _ _,_=>by simp[V.aH,T.free]
 | .ref _ _,_=>by simp[V.aH,T.free]
 | .own _,h=>by simp[V.free] at h
 | .ptr _ _ _,h=>by simp[V.free] at h
 | .nC _ _ _,h=>by simp[V.free] at h
 | .fn _ l,h=>by simp only[V.aH,T.free]; simp only[V.free] at h; exact V.gY l h
 | .dM l,h=>by simp only[V.aH,T.free]; simp only[V.free] at h; exact V.gY l h
 | .cnd _ _,h=>by simp[V.free] at h
 | .raw t,h=>by simp only[V.aH]; simpa only[V.free] using h
theorem V.gY:(l:List V)->V.dh l=true->T.dh (V.aS l)=true
 |[],_=>by simp[V.aS,T.dh]
 |v::r,h=>by
  simp only[V.dh,Bool.and_eq_true] at h
  simp only[V.aS,T.dh,Bool.and_eq_true]
  exact⟨V.lX v h.1,V.gY r h.2⟩
end
theorem yP{l:List V}{i:Nat}{u:V}(h:l[i]? =some u):(V.aS l).getD i .any=u.aH:=by
 rw[nP,List.getD_eq_getElem?_getD,List.getElem?_map,h]; rfl
theorem V.CB{off k:Nat}{v u:V}(h:v.part off k=some u):v.aH.part off k=u.aH:=by
 unfold V.part at h
 split at h
 ·simp only[V.aH,Dat.D7,T.part,T.cells]; exact yP h
 ·simp only[V.aH,T.part,T.cells]; exact yP h
 ·rename_i k x
  cases hb:(Nat.beq off 2)&&(Nat.beq k 4) with
  |false=>rw[hb] at h; cases h
  |true =>
   rw[hb] at h
   simp only[Bool.and_eq_true,Nat.beq_eq] at hb
   obtain⟨rfl,rfl⟩:=hb
   cases h; rfl
 ·cases h
  simp only[V.aH,T.part,T.cells,H8,H9]
 ·cases h
theorem jo{a b:Nat}(h:Nat.beq a b=true):a=b:=Nat.eq_of_beq_eq_true h
section
variable {m:Fm} {h:Hz} {s:AS}
def Ok(s:AS)(op:nO)(v:V):Prop:=qc s op/\qt s op=v.aH
theorem YC{op:BinOp}{x y:X}{u v r:V}{sd:Sd}(q:aaS op u v=some (r,sd))(hs:sd.holds)(h1:s.ev x=u.aH)(h2:s.ev y=v.aH):Ok s (.bin op x y) r:=by
 unfold Ok; simp only[qc,qt]; rw[h1,h2]
 unfold aaS at q
 split at q
 ·rename_i a b
  split at q<;>first|(cases q; done)|(cases q; simp only[Sd.holds] at hs; simp[V.aH,Aq,Yd,QX,hs])
 ·split at q<;>first|(cases q; done)|(cases q; simp[V.aH,Aq,Yd])
 ·split at q
  ·cases q; simp[V.aH,Aq,eS,D5]
  ·cases q; simp[V.aH,Aq,eS,D5]
  ·rename_i a b _
   cases q
   simp only[Sd.holds] at hs
   have hsz:(((bs a).size+(bs b).size:Nat):Int)<=9223372036854775807:=by
    have e1:(bs a).size=a.length:=by simp[bs,ByteArray.size]
    have e2:(bs b).size=b.length:=by simp[bs,ByteArray.size]
    rw[e1,e2]; exact Int.ofNat_le.2 hs
   have hap:bs a++bs b=bs (a++b):=by apply ByteArray.ext; simp[bs]
   have hsz2:((bs a).size:Int)+(bs b).size<=9223372036854775807:=by omega
   simp[V.aH,Aq,eS,hsz2,hap]
  ·cases q
 ·split at q
  ·cases q
   simp only[Sd.holds] at hs
   refine⟨?_,?_⟩
   ·simp only[V.aH,Aq,hs,decide_true,cond_true,Option.isSome]
   ·simp only[V.aH,Aq,hs,decide_true,cond_true]; rfl
  ·cases q; simp[V.aH,Aq,Yd]
  ·cases q; simp[V.aH,Aq,Yd]
  ·cases q; simp[V.aH,Aq,Yd]
  ·cases q
 ·cases q
theorem PY{x:X}(hx:zu x=true):x= .c (.lit (.bool true)):=by
 unfold zu at hx
 split at hx
 ·rfl
 ·cases hx
theorem NM{x:X}(hx:wG x=true):x= .c (.lit (.bool false)):=by
 unfold wG at hx
 split at hx
 ·rfl
 ·cases hx
theorem WA{c xa xb:X}{t:Bool}{va vb r:V}{sd:Sd}(R:Rp m s.fr)(ha:zJ m xa=some va)(hb:zJ m xb=some vb)(q:Ws t xa xb va.bare vb.bare=some (r,sd))(hs:sd.holds)(hc:s.ev c= .lit (.bool t)):Ok s (.pick c xa xb) r:=by
 unfold Ok; simp only[qc,qt]; rw[hc]
 refine⟨rfl,?_⟩
 unfold Ws at q
 split at q
 rename_i a sa b sb ea eb
 split at q
 ·rename_i v hp
  cases q
  rw[Sd.mY,Sd.JD,Sd.JD] at hs
  have h1:t=true->s.ev xa=a.aH:=fun e=>by rw[R.ev ha,jm ea (hs.1 e)]
  have h2:t=false->s.ev xb=b.aH:=fun e=>by rw[R.ev hb,jm eb (hs.2 e)]
  unfold Zz at hp
  split at hp
  ·rename_i x y
   have hp':r= .bool (bif zu xa then t||y else bif wG xb then t&&x else bif t then x else y):=by
    cases e1:zu xa<;>cases e2:wG xb<;>simp[e1,e2] at hp ⊢ <;>exact hp.symm
   subst hp'
   have key:yB (.lit (.bool t)) (s.ev xa) (s.ev xb)= .lit (.bool (bif t then x else y)):=by
    cases t with
    |true =>
     rw[h1 rfl]; simp only[V.aH,yB]
     split<;>simp_all
    |false =>
     rw[h2 rfl]; simp only[V.aH,yB]
     split<;>simp_all
   rw[key]
   simp only[V.aH]
   congr 2
   cases e1:zu xa with
   |true =>
    have:=PY e1; subst this
    simp only[zJ,Option.some.injEq] at ha; subst ha
    simp only[zO,V.bare,Prod.mk.injEq] at ea
    have:=ea.1; cases this
    cases t<;>rfl
   |false =>
    cases e2:wG xb with
    |true =>
     have:=NM e2; subst this
     simp only[zJ,Option.some.injEq] at hb; subst hb
     simp only[zO,V.bare,Prod.mk.injEq] at eb
     have:=eb.1; cases this
     cases t<;>simp
    |false=>rfl
  ·cases hp
   cases t with
   |true=>rw[h1 rfl]; simp only[V.aH,yB,cond_true]
   |false=>rw[h2 rfl]; simp only[V.aH,yB,cond_false]; split<;>simp_all
  ·cases hp
   cases t with
   |true=>rw[h1 rfl]; simp only[V.aH,yB,cond_true,eS]
   |false=>rw[h2 rfl]; simp only[V.aH,yB,cond_false,eS]; split<;>simp_all
  ·cases hp
 ·cases q
theorem PZ{k:Nat}{p:Option V}{r:V}{sd:Sd}(q:V.PW k p=some (r,sd)): ∃ u,p=some u/\r= .ref k u:=by
 unfold V.PW at q
 split at q
 ·cases q; exact⟨_,rfl,rfl⟩
 ·cases q
theorem EI{p:Option V}{r:V}{sd:Sd}(q:V.Fj p=some (r,sd)):p=some r:=by
 unfold V.Fj at q
 split at q
 ·cases q; rfl
 ·cases q
theorem WB{k:Nat}(h:(!(Nat.beq k 0))=true):(!(k==0))=true:=by
 cases k<;>simp_all
theorem aaY(hh:s.hp=h.aj){off k:Nat}{x:X}{u r:V}{sd:Sd}(q:faZ h off k u=some (r,sd))(h1:s.ev x=u.aH):Ok s (.fa off k x) r:=by
 unfold Ok; simp only[qc,qt]; rw[h1]
 unfold faZ at q
 split at q
 ·obtain⟨g,q⟩:=aQ q
  obtain⟨u,e,rfl⟩:=PZ q
  simp only[Bool.and_eq_true] at g
  simp only[V.aH,V.CB e,Bool.and_eq_true]
  exact⟨⟨WB g.1,g.2⟩,trivial⟩
 ·obtain⟨g,q⟩:=aQ q
  cases q
  simp only[V.aH,hh,Hz.wH,g,and_self]
 ·cases q
theorem aaZ{off k:Nat}{x:X}{u r:V}{sd:Sd}(q:fvZ off k u=some (r,sd))(h1:s.ev x=u.aH):Ok s (.fv off k x) r:=by
 unfold Ok; simp only[qc,qt]; rw[h1]
 unfold fvZ at q
 split at q
 ·rename_i kt hk
  obtain⟨g,q⟩:=aQ q
  rw[V.KT hk,V.CB (EI q)]
  simp only[Bool.and_eq_true] at g ⊢
  exact⟨⟨WB g.1,g.2⟩,trivial⟩
 ·cases q
theorem aJ{i:Nat}{o:OV}(e:h.get i=some o):h.aj i=some o.aG:=by simp[Hz.aj,e]
theorem YD: ∀ {l:List V} {i:Nat} {v:V},aaT l i=some v->i<l.length/\(V.aS l).getD i .any=v.aH:=by
 intro l
 induction l with
 |nil=>intro i v h; cases h
 |cons u r ih =>
  intro i v h
  cases i with
  |zero=>cases h; exact⟨Nat.succ_pos _,rfl⟩
  |succ i =>
   obtain⟨a,b⟩:=ih h
   exact⟨Nat.succ_lt_succ a,by simpa [V.aS] using b⟩
theorem aa0(hh:s.hp=h.aj){k:Nat}{x i:X}{u v r:V}{sd:Sd}(q:iaZ h k u v=some (r,sd))(hs:sd.holds)(h1:s.ev x=u.aH)(h2:s.ev i=v.aH):Ok s (.ia k x i) r:=by
 unfold Ok; simp only[qc,qt]; rw[h1,h2]
 unfold iaZ at q
 split at q
 ·rename_i k' f l n
  split at q
  ·rename_i v hv
   obtain⟨g,q⟩:=aQ q
   cases q
   have:=jo g; subst this
   simp only[Sd.holds] at hs
   obtain⟨a,b⟩:=YD hv
   simp only[V.aH,Xv,gy]
   exact⟨⟨trivial,hs,by omega⟩,by rw[b]⟩
  ·cases q
 ·rename_i k' f w n
  obtain⟨g,q⟩:=aQ q
  cases q
  have:=jo g; subst this
  simp only[Sd.holds,Rw.Cj] at hs
  simp only[V.aH,Xv,Rw.eG]
  refine⟨⟨trivial,hs⟩,?_⟩
  rw[Rw.KQ (by omega)]
 ·rename_i o n
  split at q
  ·rename_i ty k' w e
   obtain⟨g,q⟩:=aQ q
   cases q
   have:=jo g; subst this
   simp only[Sd.holds,Rw.Cj] at hs
   simp only[V.aH,hh,aJ e,OV.aG,V.aS,List.append_nil,Xv,Rw.eG]
   exact⟨⟨trivial,hs⟩,trivial⟩
  ·cases q
 ·rename_i o lo hi n
  split at q
  ·rename_i ty k' w e
   obtain⟨g,q⟩:=aQ q
   cases q
   have:=jo g; subst this
   simp only[Sd.holds] at hs
   simp only[V.aH,hh,aJ e,OV.aG,Xv]
   exact⟨⟨trivial,hs⟩,trivial⟩
  ·cases q
 ·cases q
theorem aa1{x i:X}{u v r:V}{sd:Sd}(q:chZ u v=some (r,sd))(hs:sd.holds)(h1:s.ev x=u.aH)(h2:s.ev i=v.aH):Ok s (.ch x i) r:=by
 unfold Ok; simp only[qc,qt]; rw[h1,h2]
 unfold chZ at q
 split at q
 ·cases q
  simp only[Sd.holds] at hs
  simp only[V.aH,eS,Xv,zq,Wp]
  exact⟨hs,trivial⟩
 ·cases q
  simp only[Sd.holds] at hs
  simp only[V.aH,eS,Xv,zq,Wp]
  exact⟨hs,trivial⟩
 ·cases q
theorem WC(hh:s.hp=h.aj){k:Nat}{x:X}{u r:V}{sd:Sd}(q:ldZ h k u=some (r,sd))(hs:sd.holds)(h1:s.ev x=u.aH):Ok s (.ld k x) r:=by
 unfold Ok; simp only[qc,qt]; rw[h1]
 unfold ldZ at q
 split at q
 ·obtain⟨g,q⟩:=aQ q
  cases q
  simp only[Bool.and_eq_true] at g
  have:=jo g.1; subst this
  simp[V.aH,g.2]
 ·rename_i i j off
  split at q
  ·rename_i ty ko v e
   simp only[V.aH,hh,aJ e,OV.aG]
   unfold ldB at q
   cases hj:Nat.beq j 0 with
   |false=>rw[hj] at q; cases q
   |true =>
    have:=jo hj; subst this
    rw[hj] at q
    simp only[cond_true] at q
    cases hb:(Nat.beq off 0&&Nat.beq ko k) with
    |true =>
     rw[hb] at q; cases q
     simp only[Bool.and_eq_true] at hb
     have e1:=jo hb.1; have e2:=jo hb.2; subst e1; subst e2
     simp
    |false =>
     rw[hb] at q
     simp only[cond_false] at q
     obtain⟨g,q⟩:=aQ q
     have hb':(off==0&&ko==k)=false:=by
      rw[Bool.and_eq_false_iff] at hb ⊢
      rcases hb with hb|hb
      ·left; simpa using Nat.ne_of_beq_eq_false hb
      ·right; simpa using Nat.ne_of_beq_eq_false hb
     simp only[hb',cond_false,Bool.false_or,List.getD_cons_zero,V.CB (EI q),List.length_cons,List.length_nil]
     simp only[Bool.and_eq_true] at g ⊢
     exact⟨⟨by omega,WB g.1,g.2⟩,trivial⟩
  ·rename_i ty ko w e
   simp only[V.aH,hh,aJ e,OV.aG,V.aS,List.append_nil]
   unfold ldR at q
   cases hb:(Nat.beq off 0&&Nat.beq ko k) with
   |true =>
    rw[hb] at q; cases q
    simp only[Bool.and_eq_true] at hb
    have e1:=jo hb.1; have e2:=jo hb.2; subst e1; subst e2
    simp only[Sd.holds,Rw.Cj] at hs
    have hlt:j<w.len:=by omega
    simp only[BEq.rfl,Bool.and_self,Bool.true_or,cond_true,Rw.eG,Rw.KQ hlt]
    exact⟨⟨hlt,trivial⟩,trivial⟩
   |false =>
    rw[hb] at q
    simp only[cond_false] at q
    split at q
    ·rename_i u hu
     obtain⟨g,q⟩:=aQ q
     cases q
     have hb':(off==0&&ko==k)=false:=by
      rw[Bool.and_eq_false_iff] at hb ⊢
      rcases hb with hb|hb
      ·left; simpa using Nat.ne_of_beq_eq_false hb
      ·right; simpa using Nat.ne_of_beq_eq_false hb
     simp only[Sd.holds,Rw.Cj] at hs
     have hlt:j<w.len:=by omega
     simp only[hb',cond_false,Bool.false_or,Rw.eG,Rw.KQ hlt,V.CB hu]
     simp only[Bool.and_eq_true] at g ⊢
     exact⟨⟨hlt,WB g.1,g.2⟩,trivial⟩
    ·cases q
  ·cases q
 ·cases q
theorem aa2(hh:s.hp=h.aj){x:X}{u r:V}{sd:Sd}(q:ncZ h u=some (r,sd))(h1:s.ev x=u.aH):Ok s (.nc x) r:=by
 unfold Ok; simp only[qc,qt]; rw[h1]
 unfold ncZ at q
 split at q
 ·cases q; simp[V.aH]
 ·obtain⟨g,q⟩:=aQ q; cases q; simp[V.aH,hh,Hz.wH,g]
 ·cases q; simp[V.aH]
 ·cases q
theorem YE(hh:s.hp=h.aj){str:Bool}{x:X}{u r:V}{sd:Sd}(q:aaU h str u=some (r,sd))(h1:s.ev x=u.aH):Ok s (.len str x) r:=by
 unfold Ok; simp only[qc,qt]; rw[h1]
 unfold aaU at q
 split at q
 ·obtain⟨g,q⟩:=aQ q; cases q
  simp only[Bool.not_eq_true'] at g
  simp[V.aH,Rw.KP,Rw.eG,g]
 ·obtain⟨g,q⟩:=aQ q; cases q
  simp only[Bool.not_eq_true'] at g
  simp[V.aH,gy,g]
 ·obtain⟨g,q⟩:=aQ q; cases q
  simp[V.aH,eS,zq,g]
 ·rename_i o
  split at q
  ·rename_i ty k w y e
   obtain⟨g,q⟩:=aQ q
   simp only[Bool.and_eq_true,Bool.not_eq_true'] at g
   have hk:k≠fF:=Nat.ne_of_beq_eq_false g.2
   split at q
   ·cases q
    simp only[V.aH,hh,aJ e,OV.aG,V.aS,List.append_nil,Rw.KP,Rw.eG]
    exact⟨⟨g.1,hk⟩,trivial⟩
   ·cases q
    simp only[V.aH,hh,aJ e,OV.aG,List.length_append,gy,Rw.eG]
    exact⟨⟨g.1,hk⟩,by simp⟩
  ·cases q
 ·rename_i o lo hi
  obtain⟨g,q⟩:=aQ q; cases q
  simp only[Bool.and_eq_true,Bool.not_eq_true'] at g
  simp[V.aH,hh,Hz.wH,g]
 ·cases q
theorem aa3{x y:X}{u v r:V}{sd:Sd}(q:mxZ u v=some (r,sd))(h1:s.ev x=u.aH)(h2:s.ev y=v.aH):Ok s (.mx x y) r:=by
 unfold Ok; simp only[qc,qt]; rw[h1,h2]
 unfold mxZ at q
 split at q
 ·rename_i a b
  cases q; simp only[V.aH,true_and]; congr 2; split<;>omega
 ·cases q
theorem aa4{x y:X}{u v r:V}{sd:Sd}(q:mnZ u v=some (r,sd))(h1:s.ev x=u.aH)(h2:s.ev y=v.aH):Ok s (.mn x y) r:=by
 unfold Ok; simp only[qc,qt]; rw[h1,h2]
 unfold mnZ at q
 split at q
 ·rename_i a b
  cases q; simp only[V.aH,true_and]; congr 2; split<;>omega
 ·cases q
theorem aa5{i:Nat}{x:X}{u r:V}{sd:Sd}(q:exZ i u=some (r,sd))(h1:s.ev x=u.aH):Ok s (.ex x i) r:=by
 unfold Ok; simp only[qc,qt]; rw[h1]
 unfold exZ at q
 split at q
 ·split at q
  ·rename_i l _ v e
   cases q
   have hi:i<l.length:=(List.getElem?_eq_some_iff.1 e).1
   simp only[V.aH,Nat.blt_eq,gy,yP e]
   exact⟨hi,trivial⟩
  ·cases q
 ·cases q
theorem YF{ne:Bool}{n:Nat}{x y:X}{u v r:V}{sd:Sd}(q:aaV ne n u v=some (r,sd))(h1:s.ev x=u.aH)(h2:s.ev y=v.aH):Ok s (.eqs ne n x y) r:=by
 unfold Ok; simp only[qc,qt]; rw[h1,h2]
 unfold aaV at q
 split at q
 ·rename_i x y
  obtain⟨g,q⟩:=aQ q; cases q
  have:=jo g; subst this
  have e:pW [.int x.c,.int x.n,.int x.t,.int x.f] [.int y.c,.int y.n,.int y.t,.int y.f]=(x==y):=by
   cases x; cases y; simp[pW,BEq.beq]
  simp only[V.aH,Dat.aH,PS,e]
  exact⟨rfl,trivial⟩
 ·rename_i x y
  obtain⟨g,q⟩:=aQ q; cases q
  have:=jo g; subst this
  have e:pW [.int x.message,.int x.IL,.int x.bound.c,.int x.bound.n,.int x.bound.t,.int x.bound.f] [.int y.message,.int y.IL,.int y.bound.c,.int y.bound.n,.int y.bound.t,.int y.bound.f]=(x==y):=by
   obtain⟨a,b,c,d,e,f⟩:=x; obtain⟨a',b',c',d',e',f'⟩:=y; simp[pW,BEq.beq]
  simp only[V.aH,Dat.aH,NH,e]
  exact⟨rfl,trivial⟩
 ·cases q
theorem YG{x:X}{u r:V}{sd:Sd}(q:aaW u=some (r,sd))(h1:s.ev x=u.aH):Ok s (.J7 x) r:=by
 unfold Ok; simp only[qc,qt]; rw[h1]
 unfold aaW at q
 split at q
 ·cases q; simp[V.aH,Rw.KP,Rw.eG]
 ·cases q
end
section
variable {m:Fm} {h:Hz} {s:AS}
theorem um(R:Rp m s.fr): ∀ {xs:List X} {l:List V} {sd:Sd},zZ m xs=some (l,sd)->sd.holds->xs.map s.ev=V.aS l:=by
 intro xs
 induction xs with
 |nil=>intro l sd q _; cases q; rfl
 |cons x r ih =>
  intro l sd q hs
  simp only[zZ] at q
  split at q
  ·rename_i v l' s' h1 h2
   cases q
   rw[Sd.mY] at hs
   simp only[List.map_cons,V.aS]
   rw[R.ev h1,jm (v:=v) (u:=v.bare.1) (s:=v.bare.2) rfl hs.1,ih h2 hs.2]
  ·cases q
theorem D9: ∀ {l:List V},Aa h l=true->vW h.aj (V.aS l)=true:=by
 intro l
 induction l with
 |nil=>intro _; rfl
 |cons v r ih =>
  intro q
  simp only[Aa,Bool.and_eq_true] at q
  simp only[V.aS,vW,Bool.and_eq_true]
  exact⟨V.wI q.1,ih q.2⟩
theorem Fp{k:Nat}: ∀ {l:List V},Gy k l=true-> ∀ v∈l,v.kd=some k:=by
 intro l
 induction l with
 |nil=>intro _ v hv; cases hv
 |cons u r ih =>
  intro q v hv
  simp only[Gy,Bool.and_eq_true] at q
  rcases List.mem_cons.1 hv with rfl|hv
  ·have:=q.1
   split at this
   ·rename_i k' e; rw[e,jo this]
   ·cases this
  ·exact ih q.2 v hv
theorem Ua: ∀ {l:List V},Aa h l=true->Gy 0 l=true->wZ h.aj (V.aS l)=true:=by
 intro l
 induction l with
 |nil=>intro _ _; rfl
 |cons v r ih =>
  intro q k
  have hk:=Fp k v (by simp)
  simp only[Aa,Gy,Bool.and_eq_true] at q k
  simp only[V.aS,wZ,Bool.and_eq_true]
  exact⟨V.Wy q.1 hk,ih q.2 k.2⟩
theorem WE: ∀ {ps:List (Nat×Nat×X)} {vs z l:List V},QW ps vs z=some l->(ps.map fun p=>s.ev p.2.2)=V.aS vs ->
  DI (V.aS z) (ps.map fun p=>(p.1,p.2.1,s.ev p.2.2))=true/\Ez (V.aS z) (ps.map fun p=>(p.1,p.2.1,s.ev p.2.2))=V.aS l:=by
 intro ps
 induction ps with
 |nil =>
  intro vs z l q he
  cases vs with
  |nil=>cases q; exact⟨rfl,rfl⟩
  |cons v vs=>simp[V.aS] at he
 |cons p ps ih =>
  intro vs z l q he
  obtain⟨off,n,x⟩:=p
  cases vs with
  |nil=>simp[V.aS] at he
  |cons v vs =>
   simp only[QW] at q
   split at q
   ·rename_i c hc
    obtain⟨g,q⟩:=aQ q
    simp only[List.map_cons,V.aS,List.cons.injEq] at he
    simp only[Bool.and_eq_true] at g
    have e1:=jo g.1
    obtain⟨i1,i2⟩:=ih q he.2
    simp only[List.map_cons,DI,Ez,Bool.and_eq_true]
    have ec:(s.ev x).cells=V.aS c:=by rw[he.1]; exact V.D8 hc
    simp only[xC,H8,H9] at i1 i2
    simp only[ec,gy]
    refine⟨⟨⟨by simpa using e1,g.2⟩,i1⟩,i2⟩
   ·cases q
theorem aa6(R:Rp m s.fr)(hh:s.hp=h.aj){z:List T}{ps:List (Nat×Nat×X)}{r:V}{sd:Sd}(q:mkZ m h z ps=some (r,sd))(hs:sd.holds):Ok s (.mk z ps) r:=by
 unfold mkZ at q
 split at q
 ·rename_i vs s' hb
  split at q
  ·rename_i l hl
   obtain⟨g,q⟩:=aQ q
   cases q
   have he:=um R hb hs
   have he':(ps.map fun p=>s.ev p.2.2)=V.aS vs:=by rw[<- he]; simp
   obtain⟨i1,i2⟩:=WE hl he'
   rw[zx] at i1 i2
   unfold Ok; simp only[qc,qt]
   rw[i1,i2,he',hh,D9 g]
   exact⟨rfl,rfl⟩
  ·cases q
 ·cases q
theorem QY{k n:Nat}: ∀ {ps:List (Nat×X)} {vs z l:List V},Wu n ps vs z=some l->(ps.map fun p=>s.ev p.2)=V.aS vs->Gy k vs=true ->
  GH k n (ps.map fun p=>(p.1,s.ev p.2))=true/\oZ (V.aS z) (ps.map fun p=>(p.1,s.ev p.2))=V.aS l:=by
 intro ps
 induction ps with
 |nil =>
  intro vs z l q he _
  cases vs with
  |nil=>cases q; exact⟨rfl,rfl⟩
  |cons v vs=>simp[V.aS] at he
 |cons p ps ih =>
  intro vs z l q he hk
  obtain⟨i,x⟩:=p
  cases vs with
  |nil=>simp[V.aS] at he
  |cons v vs =>
   simp only[Wu] at q
   obtain⟨g,q⟩:=aQ q
   simp only[List.map_cons,V.aS,List.cons.injEq] at he
   have hkv:=Fp hk v (by simp)
   simp only[Gy,Bool.and_eq_true] at hk
   obtain⟨i1,i2⟩:=ih q he.2 hk.2
   have e:V.aS (z.set i v)=(V.aS z).set i (s.ev x):=by rw[he.1]; simp[nP,List.map_set]
   rw[e] at i2
   simp only[List.map_cons,GH,oZ,Bool.and_eq_true]
   refine⟨⟨⟨?_,g⟩,i1⟩,i2⟩
   rw[he.1,V.KT hkv]; simp
theorem aa7(R:Rp m s.fr)(hh:s.hp=h.aj){ty k:Nat}{z:T}{n:Nat}{ps:List (Nat×X)}{r:V}{sd:Sd}(q:msZ m h k z n ps=some (r,sd))(hs:sd.holds):Ok s (.ms ty k z n ps) r:=by
 unfold msZ at q
 split at q
 ·rename_i vs s' hb
  split at q
  ·rename_i l hl
   obtain⟨g,q⟩:=aQ q
   have hs':s'.holds/\r.aH= .sl k true (V.aS l):=by
    split at q
    ·rename_i w hw
     cases q; exact⟨hs,by simp only[V.aH]; rw[Rw.zx hw]⟩
    ·cases q; exact⟨hs,rfl⟩
   have he:=um R hb hs'.1
   have he':(ps.map fun p=>s.ev p.2)=V.aS vs:=by rw[<- he]; simp
   simp only[Bool.and_eq_true] at g
   obtain⟨⟨⟨⟨⟨⟨g1,g2⟩,g3⟩,g4⟩,g5⟩,g6⟩,g7⟩:=g
   obtain⟨i1,i2⟩:=QY hl he' g3
   have e:V.aS (List.replicate n (zO z))=List.replicate n z:=by rw[nP,List.map_replicate,xB]
   rw[e] at i2
   unfold Ok; simp only[qc,qt]
   rw[i1,i2,he',hh,D9 g4,V.gY _ g5,g1,g2,g6,g7,hs'.2]
   exact⟨rfl,rfl⟩
  ·cases q
 ·cases q
theorem yQ(R:Rp m s.fr){x:Option X}{v:Option V}{sd:Sd}(q:H7 m x=some (v,sd))(hs:sd.holds):x.map s.ev=v.map V.aH:=by
 cases x with
 |none=>cases q; rfl
 |some x =>
  simp only[H7] at q
  split at q
  ·rename_i u hu
   cases q
   simp only[Option.map_some]; rw[R.ev hu,jm (v:=u) (u:=u.bare.1) (s:=u.bare.2) rfl hs]
  ·cases q
theorem Ea{k k':Nat}{r:Rw}(g:ZA k k' r=true):k'=k\/r.aS=[]:=by
 unfold ZA at g
 split at g
 ·exact .inr rfl
 ·exact .inl (jo g)
theorem NP{k k':Nat}{f:Bool}{w:Rw}{lo hi mx:Option V}{r:V}{sd:Sd}(q:Wv k k' f w lo hi mx=some (r,sd))(hs:sd.holds) :
  Xw k (.sl k' f w.aS) (lo.map V.aH) (hi.map V.aH) (mx.map V.aH)/\MZ k (.sl k' f w.aS) (lo.map V.aH) (hi.map V.aH) (mx.map V.aH)=r.aH:=by
 unfold Wv at q
 split at q
 ·obtain⟨g,q⟩:=aQ q; cases q
  simp only[Option.map_none,Xw,MZ,V.aH]
  exact⟨Ea g,trivial⟩
 ·obtain⟨g,q⟩:=aQ q; cases q
  simp only[Sd.holds,Rw.qX] at hs
  simp only[Option.map_none,Option.map_some,Xw,MZ,V.aH,Rw.NK,Rw.eG]
  exact⟨⟨Ea g,hs⟩,trivial⟩
 ·obtain⟨g,q⟩:=aQ q; cases q
  simp only[Sd.holds,Rw.qX] at hs
  simp only[Option.map_none,Option.map_some,Xw,MZ,V.aH,Rw.Cm,Rw.eG]
  exact⟨⟨Ea g,hs⟩,trivial⟩
 ·obtain⟨g,q⟩:=aQ q; cases q
  simp only[Sd.holds,Rw.qX] at hs
  simp only[Option.map_none,Option.map_some,Xw,MZ,V.aH,Rw.Cm,Rw.NK,Rw.eG]
  exact⟨⟨Ea g,hs.1,hs.2.1,hs.2.2.2⟩,trivial⟩
 ·obtain⟨g,q⟩:=aQ q; cases q
  simp only[Sd.holds,Rw.qX] at hs
  simp only[Option.map_none,Option.map_some,Xw,MZ,V.aH,Rw.Cm,Rw.eG]
  exact⟨⟨Ea g,hs.1,hs.2.1,hs.2.2.2⟩,trivial⟩
 ·cases q
theorem WG{k i ty ko:Nat}{w:Rw}{lo hi mx:Option V}{r:V}{sd:Sd}(q:Wx k i ko w lo hi mx=some (r,sd))(hs:sd.holds) :
  BK k ⟨ty,ko,w.aS⟩ (lo.map V.aH) (hi.map V.aH) (mx.map V.aH)/\xI i ⟨ty,ko,w.aS⟩ (lo.map V.aH) (hi.map V.aH) (mx.map V.aH)=r.aH:=by
 unfold Wx at q
 split at q
 ·obtain⟨g,q⟩:=aQ q; cases q
  simp only[Sd.holds,Rw.qX] at hs
  simp only[Option.map_none,Option.map_some,BK,xI,V.aH,Rw.eG]
  exact⟨⟨jo g,hs⟩,trivial⟩
 ·obtain⟨g,q⟩:=aQ q; cases q
  simp only[Sd.holds,Rw.qX] at hs
  simp only[Option.map_none,Option.map_some,BK,xI,V.aH,Rw.eG]
  exact⟨⟨jo g,hs⟩,trivial⟩
 ·obtain⟨g,q⟩:=aQ q; cases q
  simp only[Sd.holds,Rw.qX] at hs
  simp only[Option.map_none,Option.map_some,BK,xI,V.aH,Rw.eG]
  exact⟨⟨jo g,hs.1,hs.2.1,hs.2.2.2⟩,trivial⟩
 ·cases q
theorem Ub{k i ty ko:Nat}{w:Rw}{xs:List V}{lo hi mx:Option V}{r:V}{sd:Sd}(q:PX k i ko w xs lo hi mx=some (r,sd))(hs:sd.holds) :
  BK k ⟨ty,ko,w.aS++V.aS xs⟩ (lo.map V.aH) (hi.map V.aH) (mx.map V.aH)/\xI i ⟨ty,ko,w.aS++V.aS xs⟩ (lo.map V.aH) (hi.map V.aH) (mx.map V.aH)=r.aH:=by
 unfold PX at q
 split at q
 ·obtain⟨g,q⟩:=aQ q; cases q
  simp only[Sd.holds,Rw.qX] at hs
  simp only[Option.map_none,Option.map_some,BK,xI,V.aH]
  refine⟨⟨jo g,hs.1,?_⟩,trivial⟩
  have:=hs.2
  simp only[List.length_append,Rw.eG]; omega
 ·split at q
  ·simp only[V.aS,List.append_nil]; exact WG q hs
  ·cases q
theorem QZ(R:Rp m s.fr){b:Bool}{k:Nat}{x:X}{lo hi mx:Option X}{r:V}{sd:Sd}(q:slX m h b k x lo hi mx=some (r,sd))(hs:sd.holds) :
  ∃ v lo' hi' mx' s',slZ h b k v lo' hi' mx'=some (r,s')/\s'.holds/\s.ev x=v.aH/\lo.map s.ev=lo'.map V.aH/\hi.map s.ev=hi'.map V.aH/\mx.map s.ev=mx'.map V.aH:=by
 obtain⟨v,s',q,hs,hv⟩:=jP R q hs
 split at q
 ·rename_i lo' s1 hi' s2 mx' s3 e1 e2 e3
  split at q
  ·rename_i u s4 e4
   cases q
   rw[Sd.mY,Sd.mY,Sd.mY] at hs
   exact⟨v,lo',hi',mx',s4,e4,hs.2.2.2,hv,yQ R e1 hs.1,yQ R e2 hs.2.1,yQ R e3 hs.2.2.1⟩
  ·cases q
 ·cases q
theorem acv(R:Rp m s.fr){k:Nat}{x:X}{lo hi mx:Option X}{r:V}{sd:Sd}(q:slX m h false k x lo hi mx=some (r,sd))(hs:sd.holds):Ok s (.sl k x lo hi mx) r:=by
 obtain⟨v,lo',hi',mx',s',q,hs,hv,e1,e2,e3⟩:=QZ R q hs
 unfold Ok; simp only[qc,qt]; rw[hv,e1,e2,e3]
 unfold slZ at q
 split at q
 ·exact NP q hs
 ·cases q
 ·cases q
theorem aa8(R:Rp m s.fr)(hh:s.hp=h.aj){k:Nat}{x:X}{lo hi mx:Option X}{r:V}{sd:Sd}(q:slX m h true k x lo hi mx=some (r,sd))(hs:sd.holds):Ok s (.MX k x lo hi mx) r:=by
 obtain⟨v,lo',hi',mx',s',q,hs,hv,e1,e2,e3⟩:=QZ R q hs
 unfold Ok; simp only[qc,qt]; rw[hv,e1,e2,e3]
 unfold slZ at q
 split at q
 ·exact NP q hs
 ·simp only[cond_true] at q
  split at q
  ·rename_i i _ ty ko w xs e
   simp only[V.aH,hh,aJ e,OV.aG]
   exact Ub q hs
  ·cases q
 ·cases q
theorem AV{t:Str}{a b:Nat}(hab:a<=b)(_hb:b<=t.length):(bs t).extract a b=bs ((t.take b).drop a):=by
 apply ByteArray.ext
 have h1:((bs t).extract a b).data=(bs t).data.extract a b:=ByteArray.data_extract
 rw[h1]
 apply Array.ext'
 simp[bs,List.extract,List.take_drop]
 rw[show a+(b-a)=b by omega]
theorem acw(R:Rp m s.fr){x:X}{lo hi:Option X}{r:V}{sd:Sd}(q:ssX m x lo hi=some (r,sd))(hs:sd.holds):Ok s (.ss x lo hi) r:=by
 obtain⟨v,s',q,hs,hv⟩:=jP R q hs
 split at q
 ·rename_i t lo' s1 hi' s2 e1 e2
  split at q
  ·rename_i u s4 e4
   cases q
   rw[Sd.mY,Sd.mY] at hs
   have f1:=yQ R e1 hs.1
   have f2:=yQ R e2 hs.2.1
   unfold Ok; simp only[qc,qt]; rw[hv,f1,f2]
   have hs4:=hs.2.2
   unfold ssZ at e4
   split at e4
   ·cases e4
    simp only[Sd.holds] at hs4
    simp only[Option.map_none,Option.map_some,V.aH,eS,zq]
    refine⟨hs4,?_⟩
    rw[AV (by omega) (Nat.le_refl _)]; simp
   ·cases e4
    simp only[Sd.holds] at hs4
    simp only[Option.map_none,Option.map_some,V.aH,eS,zq]
    refine⟨hs4,?_⟩
    rw[AV (by omega) (by omega)]; simp
   ·cases e4
    simp only[Sd.holds] at hs4
    simp only[Option.map_some,V.aH,eS,zq]
    refine⟨hs4,?_⟩
    rw[AV (by omega) (by omega)]
   ·cases e4
  ·cases q
 ·cases q
theorem aa9(R:Rp m s.fr)(hh:s.hp=h.aj){f:FuncId}{cap:List X}{r:V}{sd:Sd}(q:mfZ m h f cap=some (r,sd))(hs:sd.holds):Ok s (.mf f cap) r:=by
 unfold mfZ at q
 split at q
 ·rename_i l s' hb
  obtain⟨g,q⟩:=aQ q
  cases q
  simp only[Bool.and_eq_true] at g
  unfold Ok; simp only[qc,qt]
  rw[um R hb hs,hh,Ua g.1.1 g.1.2,g.2]
  exact⟨rfl,rfl⟩
 ·cases q
theorem abb{f:FuncId}{x:X}{v r:V}{sd:Sd}(q:mbZ f v=some (r,sd))(h1:s.ev x=v.aH):Ok s (.mb f x) r:=by
 unfold mbZ at q
 split at q
 ·obtain⟨g,q⟩:=aQ q; cases q
  unfold Ok; simp only[qc,qt]; rw[h1]; exact⟨Nat.blt_eq.mp g,rfl⟩
 ·obtain⟨g,q⟩:=aQ q; cases q
  rename_i d
  unfold Ok; simp only[qc,qt]; rw[h1]; simp only[V.aH]; rw[Dat.D7]; exact⟨Nat.blt_eq.mp g,rfl⟩
 ·cases q
theorem WH(R:Rp m s.fr)(hh:s.hp=h.aj){op:nO}{r:V}{sd:Sd}(q:qz m h op=some (r,sd))(hs:sd.holds):cZ op=true/\Ok s op r:=by
 unfold qz at q
 split at q
 ·split at q
  ·rename_i v e; cases q
   exact⟨rfl,trivial,R.ev e⟩
  ·cases q
 ·obtain⟨c,s',q,hs,hc⟩:=jP R q hs
  split at q
  ·rename_i t va vb e1 e2
   exact⟨rfl,WA R e1 e2 q hs hc⟩
  ·cases q
 ·obtain⟨u,v,s',q,hs,h1,h2⟩:=xE R q hs
  exact⟨rfl,YC q hs h1 h2⟩
 ·obtain⟨u,v,s',q,hs,h1,h2⟩:=xE R q hs
  split at q
  ·cases q; refine⟨rfl,?_⟩; unfold Ok; simp only[qc,qt]; rw[h1,h2]; exact⟨rfl,rfl⟩
  ·cases q
 ·obtain⟨u,s',q,hs,h1⟩:=jP R q hs
  split at q
  ·cases q; refine⟨rfl,?_⟩; unfold Ok; simp only[qc,qt]; rw[h1]; exact⟨rfl,rfl⟩
  ·cases q
 ·obtain⟨u,s',q,hs,h1⟩:=jP R q hs
  split at q
  ·cases q; refine⟨rfl,?_⟩; unfold Ok; simp only[qc,qt]; rw[h1]; simp only[V.aH,true_and]; rw[QX hs]
  ·cases q; refine⟨rfl,?_⟩; unfold Ok; simp only[qc,qt]; rw[h1]; simp only[V.aH,true_and]; rw[QX hs]
  ·cases q; refine⟨rfl,?_⟩; unfold Ok; simp only[qc,qt]; rw[h1]; simp only[V.aH,true_and]; rw[QX hs]
  ·cases q
 ·obtain⟨u,s',q,hs,h1⟩:=jP R q hs
  split at q
  ·cases q; refine⟨rfl,?_⟩; unfold Ok; simp only[qc,qt]; rw[h1]; simp only[V.aH,true_and]; rw[acu hs.1 hs.2]
  ·cases q
 ·obtain⟨u,s',q,hs,h1⟩:=jP R q hs
  split at q
  ·cases q; refine⟨rfl,?_⟩; unfold Ok; simp only[qc,qt]; rw[h1]; simp only[V.aH,true_and]; rw[aaX hs.1 hs.2]
  ·cases q
 ·obtain⟨u,s',q,hs,h1⟩:=jP R q hs; exact⟨rfl,aaY hh q h1⟩
 ·obtain⟨u,s',q,hs,h1⟩:=jP R q hs; exact⟨rfl,aaZ q h1⟩
 ·obtain⟨u,v,s',q,hs,h1,h2⟩:=xE R q hs; exact⟨rfl,aa0 hh q hs h1 h2⟩
 ·obtain⟨u,v,s',q,hs,h1,h2⟩:=xE R q hs; exact⟨rfl,aa1 q hs h1 h2⟩
 ·obtain⟨u,s',q,hs,h1⟩:=jP R q hs; exact⟨rfl,WC hh q hs h1⟩
 ·obtain⟨u,s',q,hs,h1⟩:=jP R q hs; exact⟨rfl,aa2 hh q h1⟩
 ·obtain⟨u,s',q,hs,h1⟩:=jP R q hs; exact⟨rfl,YE hh q h1⟩
 ·obtain⟨u,v,s',q,hs,h1,h2⟩:=xE R q hs; exact⟨rfl,aa3 q h1 h2⟩
 ·obtain⟨u,v,s',q,hs,h1,h2⟩:=xE R q hs; exact⟨rfl,aa4 q h1 h2⟩
 ·exact⟨rfl,aa6 R hh q hs⟩
 ·exact⟨rfl,aa7 R hh q hs⟩
 ·exact⟨rfl,acv R q hs⟩
 ·exact⟨rfl,aa8 R hh q hs⟩
 ·exact⟨rfl,acw R q hs⟩
 ·obtain⟨u,s',q,hs,h1⟩:=jP R q hs; exact⟨rfl,aa5 q h1⟩
 ·exact⟨rfl,aa9 R hh q hs⟩
 ·obtain⟨u,v,s',q,hs,h1,h2⟩:=xE R q hs; exact⟨rfl,YF q h1 h2⟩
 ·obtain⟨u,s',q,hs,h1⟩:=jP R q hs; exact⟨rfl,YG q h1⟩
 ·obtain⟨u,s',q,hs,h1⟩:=jP R q hs; exact⟨rfl,abb q h1⟩
 ·cases q
end
structure ah(P:Program)(dr:Bool)(g:Option Bool)(f:FuncId)(args:List V)(h:Hz)(n:Nat)(K:V->Hz->Prop)(KW:Nat->V->Hz->Prop):Prop where
 ok:(match g with
  |none=>aF P f (V.aS args) h.aj n fun t hp=> ∃ v h',t=v.aH/\hp=h'.aj/\(dr=true->h'=h/\t.free=true)/\K v h'
  |some b=>(∃ v,(b=true->aF P f (V.aS args) h.aj n fun t hp=>t=v.aH/\hp=h.aj)/\v.free=true/\K v h) \/
   (dr=false/\(b=true->aF P f (V.aS args) h.aj n fun t hp=> ∃ v h',t=v.aH/\hp=h'.aj/\K v h')/\(b=false->K (.int 0) h))) \/
  (g=none/\dr=false/\ ∃ k,jM P f (V.aS args) h.aj n k fun t hp=> ∃ v h',t=v.aH/\hp=h'.aj/\KW k v h') \/
  (g=none/\dr=true/\h.get n=none/\aF P f (V.aS args) h.aj n fun t hp=> ∃ v o,t=v.aH/\hp=Hz.aj ((n,some o)::h)/\KW 0 v ((n,some o)::h))
def AX(dr fl:Bool)(a b c:Prop):Prop :=
 match dr with
 |false=>a
 |true=>match fl with
  |false=>b
  |true=>c
inductive U8(p a b:Prop):Prop where
 |mk:(p->a)->b->U8 p a b
inductive Z8(o:Option (List Bool))(yes:List Bool->Prop)(no:Prop):Prop where
 |mk:(∀ l,o=some l->yes l)->(o=none->no)->Z8 o yes no
def V.seq(v:V)(K:V->Prop):Prop :=
 match v with
 | .int n=>K (.int n)
 | .bool b=>K (.bool b)
 | .u8 n=>K (.u8 n)
 | .str s=>K (.str s)
 | .dat d=>K (.dat d)
 | .agg l=>K (.agg l)
 | .row k f r=>K (.row k f r)
 | .xO k f l=>K (.xO k f l)
 | .ref k v=>K (.ref k v)
 | .own i=>K (.own i)
 | .ptr i j o=>K (.ptr i j o)
 | .nC i a b=>K (.nC i a b)
 | .fn f l=>K (.fn f l)
 | .dM l=>K (.dM l)
 | .cnd b v=>K (.cnd b v)
 | .raw t=>K (.raw t)
theorem V.seq_eq(v:V)(K:V->Prop):v.seq K=K v:=by cases v<;>rfl
def iZ(d:Option Nat)(v:V)(m:Fm):Fm :=
 match d with
 |some d=>(d,v)::m
 |none=>m
def pz:Option Bool->V->V
 |none,v=>v
 |some b,.cnd c v=>.cnd (b&&c) v
 |some b,v=>.cnd b v
theorem Eb(v:V):(pz (some true) v).aH=v.aH:=by cases v<;>rfl
theorem P5(v:V):(pz (some false) v).aH=T.un:=by cases v<;>rfl
def P6(m:Fm):Option (Nat×Bool)->Option (Option Bool)
 |none=>some none
 |some (g,w)=>match m.get g with
  |some (.bool b)=>some (some (bif w then b else !b))
  |some (.cnd c (.bool b))=>some (some (c&&(bif w then b else !b)))
  |_=>none
def ltX(nx:Nat)(m:Fm):List X->Bool
 |[]=>true
 |x::r=>(match zJ m x with|some v=>T.lt nx v.aH|none=>false)&&ltX nx m r
def WI(nx:Nat)(m:Fm):nO->Bool
 | .st _ x _=>match zJ m x with|some v=>T.newer nx v.aH|none=>false
 | .app _ _ _ x _=>match zJ m x with|some v=>T.newer nx v.aH|none=>false
 | .MW _ _ _=>false
 | .Oq _ _ _=>false
 | .call _ _=>true
 | .mD _ _=>true
 |op=>ltX nx m op.xs
def YH(i:Nat)(m:Fm):List X->Bool
 |[]=>true
 |x::r=>(match zJ m x with|some v=>T.nid i v.aH|none=>false)&&YH i m r
def neB(m:Fm)(xs:List X):List Nat->Bool
 |[]=>true
 |d::r=>(match m.get d with|some (.ptr i _ _)=>YH i m xs|_=>false)&&neB m xs r
def JE(nx:Nat)(o:aP)(m:Fm):Bool:=(!o.fl||WI nx m o.op)&&neB m o.op.xs o.ne
def isZero:V->Bool
 | .int (.ofNat 0)=>true
 |_=>false
def RP(n:Nat):T->Option Rw
 | .lit (.int .i64 z)=>some (.ints (List.replicate n z))
 | .lit (.bool z)=>some (.bools (List.replicate n z))
 | .lit (.string z)=>some (.strs (List.replicate n z.data.toList))
 |_=>none
def Rw.set(j:Nat)(v:V)(r:Rw):Option Rw :=
 match r,v with
 | .ints l,.int n=>some (.ints (l.set j n))
 | .bools l,.bool n=>some (.bools (l.set j n))
 | .strs l,.str n=>some (.strs (l.set j n))
 | .rules l,.dat (.rule n)=>some (.rules (l.set j n))
 | .clauses l,.dat (.clause n)=>some (.clauses (l.set j n))
 | .elems l,.dat (.elem n)=>some (.elems (l.set j n))
 | .mZ l,.row 0 false (.ints n)=>some (.mZ (l.set j n))
 |_,_=>none
def abd(h:Hz)(k:Nat):V->Option (Rw×List V)
 | .row k' _ r=>dL (ZA k k' r) (some (r,[]))
 | .xO k' _ l=>dL (Nat.beq k' k) (some (.nil,l))
 | .own o=>match h.get o with
  |some (.row _ ko r x)=>dL (Nat.beq ko k) (some (r,x))
  |_=>none
 |_=>none
def abe(r:Rw)(x:List V)(r':Rw)(x':List V):Option (Rw×List V) :=
 match x,r' with
 |[],r'=>match r.app r' with|some w=>some (w,x')|none=>none
 |x,.nil=>some (r,x++x')
 |_,_=>none
def og(r:Rw)(x:List V):Nat :=
 match x with
 |[]=>r.len
 |x=>r.len+x.length
def oQ(bytes:Nat)(a b:Nat):Prop:=(a+b)*bytes<=140737488355328/\a+b<=1152921504606846976
def setCells(v:V)(off:Nat)(u:V):Option V :=
 match v.cells,u.cells with
 |some l,some c=>some (.agg (l.take off++c++l.drop (off+c.length)))
 |_,_=>none
def KU:List V->(List V->Prop)->Prop
 |[],K=>K []
 |v::r,K=>KU r fun r'=>K (v::r')
def V.force(v:V)(K:V->Prop):Prop :=
 match v with
 | .agg l=>KU l fun l=>K (.agg l)
 |v=>K v
theorem Uc: ∀ {l:List V} {K:List V->Prop},KU l K=K l:=by
 intro l
 induction l with
 |nil=>intro K; rfl
 |cons v r ih=>intro K; show KU r (fun r'=>K (v::r'))=_; rw[ih]
theorem V.force_eq(v:V)(K:V->Prop):v.force K=K v:=by
 cases v<;>first|rfl|exact Uc
structure OT(c p a b:Prop):Prop where
 ok:(c\/b)/\p/\a
theorem OT.one{c p a b:Prop}(h:c/\p)(k:a):OT c p a b:=⟨.inl h.1,h.2,k⟩
theorem OT.both{c p a b:Prop}(h:p)(k:a)(l:b):OT c p a b:=⟨.inr l,h,k⟩
def YI(dr:Bool)(d:Option Nat)(n:Nat)(m:Fm)(h:Hz)(K:Fm->Hz->Prop):nO->Prop
 | .box ty k x=>match zJ m x with
  |some v=>match v.bare with
   |(v,s)=>bif Gy k [v]&&v.kN h&&xU k then s.vc none (K (iZ d (.ptr n 0 0) m) ((n,some (.box ty k v))::h)) else False
  |none=>False
 | .al ty k z=>bif z.kd==k&&z.kN h.aj&&z.free&&xU k then K (iZ d (.ptr n 0 0) m) ((n,some (.box ty k (zO z)))::h) else False
 | .make ty k bytes z x y=>match zJ m x,zJ m y with
  |some (.int a),some (.int b)=>bif z.kd==k&&z.kN h.aj&&z.free&&xU k then
    (match (bif isZero (.int a) then some .nil else RP a.toNat z) with
    |some r=>VC (0<=a/\a<=b/\b*bytes<=140737488355328/\b<=1152921504606846976) (K (iZ d (.own n) m) ((n,some (.row ty k r []))::h))
    |none=>False) else False
  |_,_=>False
 | .st k x v=>match zJ m x,zJ m v with
  |some (.ptr i j off),some v=>match v.bare with
   |(v,s)=>bif Gy k [v]&&v.kN h then
    (match h.get i with
    |some (.box ty ko w)=>bif Nat.beq j 0 then
      (bif Nat.beq off 0&&Nat.beq ko k then s.vc none (K m ((i,some (.box ty ko v))::h))
      else bif !(Nat.beq ko 0)&&mF (aY ko) off k then(match setCells w off v with
       |some w'=>w'.force fun w'=>s.vc none (K m ((i,some (.box ty ko w'))::h))
       |none=>False) else False) else False
    |some (.row ty ko r [])=>bif Nat.beq off 0&&Nat.beq ko k then(match r.set j v with
      |some r'=>s.vc none (VC (r.rng j) (K m ((i,some (.row ty ko r' []))::h)))
      |none=>False) else False
    |_=>False) else False
  |_,_=>False
 | .app ty k bytes x y=>match zJ m x,zJ m y with
  |some x,some y=>match abd h k y with
   |some (r',x')=>(match x with
    | .row _ true .nil=>VC (oQ bytes 0 (og r' x')) (K (iZ d (.own n) m) ((n,some (.row ty k r' x'))::h))
    | .row k' true r=>bif Nat.beq k' k then(match r.app r' with
     |some w=>OT (r.len=0\/0<og r' x') (oQ bytes r.len (og r' x')) (K (iZ d (.own n) m) ((n,some (.row ty k w x'))::h)) (dr=false/\K (iZ d (.row k' true r) m) h)
     |none=>False) else False
    | .own i=>(match h.get i with
     |some (.row ty' ko r x)=>bif Nat.beq ko k&&Nat.beq ty' ty then(match abe r x r' x' with
      |some (w,z)=>VC (oQ bytes (og r x) (og r' x')) (K (iZ d (.own n) m) ((n,some (.row ty k w z))::(i,none)::h))
      |none=>False) else False
     |_=>False)
    |_=>False)
   |none=>False
  |_,_=>False
 | .Oq k z x=>match zJ m x with
  |some (.nC i lo hi)=>match h.get i with
   |some (.row ty ko r [])=>bif Nat.beq ko k&&z.kd==k&&z.kN h.aj&&z.free then
     VC (lo<=hi/\hi=r.len) (match d with
      |none=>K m ((i,some (.row ty ko (r.take lo) (List.replicate (hi-lo) (zO z))))::h)
      |some _=>K (iZ d (.raw T.un) m) ((i,some (.row ty ko (r.take lo) (List.replicate (hi-lo) (zO z))))::h)) else False
   |_=>False
  |_=>False
 | .Dc ty k z nn ps=>match zZ m (ps.map fun p=>p.2) with
  |some (vs,s)=>match Wu nn ps vs (List.replicate nn (zO z)) with
   |some l=>bif (z.kd==k)&&z.free&&Gy k vs&&Aa h vs&&Nat.ble (nn*aY k) 16777216&&xU k then s.vc none (K (iZ d (.own n) m) ((n,some (.row ty k .nil l))::h)) else False
   |none=>False
  |none=>False
 | .yA x=>match zJ m x with
  |some (.row _ _ r)=>U8 (r.len=0) (K (iZ d (.bool true) m) h) (K (iZ d (.bool false) m) h)
  |some (.own i)=>match h.get i with
   |some (.row _ ko r [])=>bif Nat.beq ko fF then False else U8 (r.len=0) (K (iZ d (.bool true) m) h) (K (iZ d (.bool false) m) h)
   |_=>False
  |_=>False
 | .Tm ty=>K (iZ d (.own n) m) ((n,some (.map ty [] []))::h)
 | .Yc z x i=>match zJ m x,zJ m i with
  |some (.own o),some (.int k)=>match h.get o with
   |some (.map _ es [])=>Z8 (vS k es) (fun l=>K (iZ d (.dM [.row 0 false (.bools l),.bool true]) m) h) (K (iZ d (.dM [zO z,.bool false]) m) h)
   |_=>False
  |_,_=>False
 | .MW x i v=>match zJ m x,zJ m i,zJ m v with
  |some (.own o),some (.int k),some v=>match v.bare with
   |(v,s)=>match h.get o with
    |some (.map ty es [])=>bif Gy 0 [v]&&v.kN h then s.vc none (VC (vS k es=none) (K m ((o,some (.map ty es [(k,v)]))::h))) else False
    |_=>False
  |_,_,_=>False
 |_=>False
def abf(P:Program)(dr:Bool)(nx n:Nat)(o:aP)(KK:Nat->Fm->Hz->Prop)(m:Fm)(h:Hz):Prop :=
 match P6 m o.g with
 |none=>False
 |some g=>bif JE nx o m then
   (match o.op with
   | .call f xs=>(match zZ m xs with
    |some (l,s)=>s.vc g (match g with
     |none=>AX dr o.fl (ah P false none f l h n (fun v h'=>v.seq fun v=>KK 0 (iZ o.d v m) h') (fun k v h'=>v.seq fun v=>KK k (iZ o.d v m) h')) (ah P true none f l h n (fun v h'=>v.seq fun v=>KK 0 (iZ o.d v m) h') (fun _ _ _=>False)) (ah P false none f l h n (fun v h'=>v.seq fun v=>KK 0 (iZ o.d v m) h') (fun _ _ _=>False))
     |some b=>AX dr o.fl (ah P false (some b) f l h n (fun v h'=>v.seq fun v=>KK 0 (iZ o.d (pz (some b) v) m) h') (fun _ _ _=>False)) (ah P true (some b) f l h n (fun v h'=>v.seq fun v=>KK 0 (iZ o.d (pz (some b) v) m) h') (fun _ _ _=>False)) (ah P false (some b) f l h n (fun v h'=>v.seq fun v=>KK 0 (iZ o.d (pz (some b) v) m) h') (fun _ _ _=>False)))
    |none=>False)
   | .mD x xs=>(match zJ m x,zZ m xs with
    |some v,some (l,s)=>(match v.bare with
     |(.fn f cap,s0)=>(s0.and s).vc g (bif Nat.blt f 4096 then AX dr o.fl (ah P false g f (l++cap) h n (fun v h'=>v.seq fun v=>KK 0 (iZ o.d (pz g v) m) h') (fun _ _ _=>False)) (ah P true g f (l++cap) h n (fun v h'=>v.seq fun v=>KK 0 (iZ o.d (pz g v) m) h') (fun _ _ _=>False)) (ah P false g f (l++cap) h n (fun v h'=>v.seq fun v=>KK 0 (iZ o.d (pz g v) m) h') (fun _ _ _=>False)) else AX dr o.fl (ah P false g (f % 4096) (.agg cap::l) h n (fun v h'=>v.seq fun v=>KK 0 (iZ o.d (pz g v) m) h') (fun _ _ _=>False)) (ah P true g (f % 4096) (.agg cap::l) h n (fun v h'=>v.seq fun v=>KK 0 (iZ o.d (pz g v) m) h') (fun _ _ _=>False)) (ah P false g (f % 4096) (.agg cap::l) h n (fun v h'=>v.seq fun v=>KK 0 (iZ o.d (pz g v) m) h') (fun _ _ _=>False)))
     |_=>False)
    |_,_=>False)
   |op=>(match qz m h op with
    |some (v,s)=>s.vc g (v.seq fun v=>KK 0 (iZ o.d (pz g v) m) h)
    |none=>(match g with
     |none=>YI dr o.d n m h (KK 0) op
     |some b=>Fork b (YI dr o.d n m h (KK 0) op) (KK 0 (iZ o.d (.cnd false (.int 0)) m) h))))
   else False
def adZ(P:Program)(nx n:Nat)(o:aP)(KK:Nat->Fm->Hz->Prop)(m:Fm)(h:Hz):Prop :=
 match o.op,o.g with
 | .call f xs,none=>bif o.fl&&JE nx o m then
   (match zZ m xs with
   |some (l,s)=>s.vc none (ah P true none f l h n (fun v h'=>v.seq fun v=>KK 0 (iZ o.d v m) h') (fun _ v h'=>v.seq fun v=>KK 0 (iZ o.d v m) h'))
   |none=>False)
   else False
 |_,_=>False
def opZ(P:Program)(dr:Bool)(nx n:Nat)(o:aP)(KK:Nat->Fm->Hz->Prop)(m:Fm)(h:Hz):Prop :=
 match o.ad with
 |true=>adZ P nx n o KK m h
 |false=>abf P dr nx n o KK m h
def NQ(P:Program)(dr:Bool)(ml:Nat)(nx:Nat)(K:Fm->Hz->Nat->Prop):List aP->Nat->Fm->Hz->Prop
 |[],_,m,h=>K m h (nx+ml)
 |o::r,i,m,h=>opZ P dr nx (nx+i) o (fun k=>NQ P dr ml (nx+k) K r (i+1)) m h
abbrev Qz:=ou->Fm->Hz->Nat->Prop
def Lift(N pn:Nat)(Q:Qz)(e:ou)(s:AS):Prop:= ∃ m h,s.fr.length=N/\Rp m s.fr/\s.hp=h.aj/\s.pin=pn/\Q e m h s.nx
structure aU(P:Program)(N pn:Nat)(b:dR)(Q:Qz)(m:Fm)(h:Hz)(nx:Nat):Prop where
 ok: ∀ fr,fr.length=N->Rp m fr->xJ (aw P b) (Lift N pn Q) ⟨fr,h.aj,nx,pn⟩
def az(P:Program)(N pn:Nat):dR->Qz->Fm->Hz->Nat->Prop
 | .skip,Q,m,h,nx=>Q .normal m h nx
 | .reg dr ops,Q,m,h,nx=>NQ P dr ops.length nx (fun m h nx=>Q .normal m h nx) ops 0 m h
 | .seq a b,Q,m,h,nx=>az P N pn a (fun e m h nx=>match e with| .normal=>az P N pn b Q m h nx|e=>Q e m h nx) m h nx
 | .cond c a b,Q,m,h,nx =>
  match zJ m c with
  |some (.bool t)=>Fork t (az P N pn a Q m h nx) (az P N pn b Q m h nx)
  |_=>False
 | .blk id b,Q,m,h,nx=>az P N pn b (fun e m h nx=>match e with| .exit j=>(bif Nat.beq j id then Q .normal m h nx else Q (.exit j) m h nx)|e=>Q e m h nx) m h nx
 | .exit id,Q,m,h,nx=>Q (.exit id) m h nx
 | .ret,Q,m,h,nx=>Q .ret m h nx
 | .loop b,Q,m,h,nx=>aU P N pn b Q m h nx
def KX(N:Nat):List aP->Bool
 |[]=>true
 |o::r=>(match o.d with|some d=>Nat.blt d N|none=>true)&&KX N r
def oH(N:Nat):dR->Bool
 | .skip=>true
 | .reg _ ops=>KX N ops
 | .seq a b=>oH N a&&oH N b
 | .cond _ a b=>oH N a&&oH N b
 | .blk _ b=>oH N b
 | .exit _=>true
 | .ret=>true
 | .loop b=>oH N b
section
variable {P:Program} {m:Fm} {h:Hz}
theorem aZ{i:Nat}{o:Option OV}:Hz.aj ((i,o)::h)=upd h.aj i (o.map OV.aG):=by
 funext j
 simp only[Hz.aj,Hz.get,upd]
 by_cases e:j=i
 ·subst e; simp
 ·have:Nat.beq i j=false:=by
   cases hb:Nat.beq i j with
   |false=>rfl
   |true=>exact absurd (jo hb).symm e
  simp[this,e]
theorem Rp.put{fr:List T}(R:Rp m fr){d:Option Nat}{v:V}(hd: ∀ i,d=some i->i<fr.length){s:AS}(hs:s.fr=fr):Rp (iZ d v m) (s.put d v.aH).fr:=by
 subst hs
 cases d with
 |none=>exact R
 |some d =>
  intro i u hu
  simp only[iZ,Fm.get] at hu
  show(s.fr.set d v.aH)[i]? =_
  cases hb:Nat.beq d i with
  |true =>
   rw[hb] at hu; simp at hu; subst hu
   have:=jo hb; subst this
   rw[List.getElem?_set_self (hd d rfl)]
  |false =>
   rw[hb] at hu
   have hne:d≠i:=Nat.ne_of_beq_eq_false hb
   rw[List.getElem?_set_ne hne]
   exact R i u hu
theorem Q5{s:AS}{d:Option Nat}{t:T}:(s.put d t).fr.length=s.fr.length:=by cases d<;>simp[AS.put]
theorem qy{g:Option Bool}{k:Prop}{s:Sd}(q:s.vc g k):((g=none\/g=some true)->s.holds)/\k:=by
 unfold Sd.vc at q
 split at q
 ·exact⟨fun _=>trivial,q⟩
 ·split at q
  ·obtain⟨a,b⟩:=q; exact⟨fun _=>a,b⟩
  ·obtain⟨a,b⟩:=q; exact⟨fun hg=>a (by rcases hg with e|e<;>cases e; rfl),b⟩
theorem Ud{s:AS}(R:Rp m s.fr){g:Option (Nat×Bool)}{g':Option Bool}(q:P6 m g=some g'):(gv g s=some true/\(g'=none\/g'=some true))\/(gv g s=some false/\g'=some false):=by
 unfold P6 at q
 split at q
 ·cases q; exact .inl ⟨rfl,.inl rfl⟩
 ·rename_i d w
  split at q
  ·rename_i b e
   cases q
   have hg:s.fr.getD d .any= .lit (.bool b):=R.getD e
   simp only[gv,hg]
   cases w<;>cases b<;>simp
  ·rename_i c b e
   cases q
   have hg:s.fr.getD d .any=bif c then .lit (.bool b) else T.un:=R.getD e
   cases c with
   |true=>simp only[gv,hg,cond_true]; cases w<;>cases b<;>simp
   |false=>simp only[gv,hg,cond_false]; simp
  ·cases q
theorem YJ{s:AS}(R:Rp m s.fr){nx:Nat}: ∀ {xs:List X},ltX nx m xs=true->(xs.all fun x=>T.lt nx (s.ev x))=true:=by
 intro xs
 induction xs with
 |nil=>intro _; rfl
 |cons x r ih =>
  intro q
  simp only[ltX,Bool.and_eq_true] at q
  simp only[List.all_cons,Bool.and_eq_true]
  refine⟨?_,ih q.2⟩
  have:=q.1
  split at this
  ·rename_i v e; rw[R.ev e]; exact this
  ·cases this
theorem WJ{s:AS}(R:Rp m s.fr){i:Nat}: ∀ {xs:List X},YH i m xs=true->(xs.all fun x=>T.nid i (s.ev x))=true:=by
 intro xs
 induction xs with
 |nil=>intro _; rfl
 |cons x r ih =>
  intro q
  simp only[YH,Bool.and_eq_true] at q
  simp only[List.all_cons,Bool.and_eq_true]
  refine⟨?_,ih q.2⟩
  have:=q.1
  split at this
  ·rename_i v e; rw[R.ev e]; exact this
  ·cases this
theorem abg{s:AS}(R:Rp m s.fr){xs:List X}: ∀ {l:List Nat},neB m xs l=true->J8 s xs l=true:=by
 intro l
 induction l with
 |nil=>intro _; rfl
 |cons d r ih =>
  intro q
  simp only[neB,Bool.and_eq_true] at q
  simp only[J8,Bool.and_eq_true]
  refine⟨?_,ih q.2⟩
  have:=q.1
  split at this
  ·rename_i i j o e
   have hg:s.fr.getD d .any= .ptr i j o:=R.getD e
   simp only[AS.obj,hg]
   exact WJ R this
  ·cases this
theorem NR{s:AS}(R:Rp m s.fr){o:aP}(q:JE s.nx o m=true):jY o s:=by
 unfold JE at q
 simp only[Bool.and_eq_true,Bool.or_eq_true,Bool.not_eq_true'] at q
 refine⟨fun hf=>?_,abg R q.2⟩
 have h1:WI s.nx m o.op=true:=by
  rcases q.1 with h|h
  ·rw[hf] at h; cases h
  ·exact h
 unfold WI at h1
 split at h1
 ·rename_i k x v e
  rw[e]
  split at h1
  ·rename_i u hu; simp only; rw[R.ev hu]; exact h1
  ·cases h1
 ·rename_i e
  rw[e]
  split at h1
  ·rename_i u hu; simp only; rw[R.ev hu]; exact h1
  ·cases h1
 ·cases h1
 ·cases h1
 ·rename_i e; rw[e]
 ·rename_i e; rw[e]
 ·rename_i op h2 h3 h4 h5 h6 h7
  have:=YJ R h1
  split
  ·rename_i e; exact absurd e (h2 _ _ _)
  ·rename_i e; exact absurd e (h3 _ _ _ _ _)
  ·rename_i e; exact absurd e (h4 _ _ _)
  ·rename_i e; exact absurd e (h5 _ _ _)
  ·rfl
  ·rfl
  ·exact this
def Kz(N pn nx:Nat)(K:Fm->Hz->Prop)(s:AS):Prop:= ∃ m h,s.fr.length=N/\Rp m s.fr/\s.hp=h.aj/\s.pin=pn/\s.nx=nx/\K m h
theorem Ue{k:Nat}{v:V}(q:Gy k [v]=true):v.aH.kd=k:=V.KT (Fp q v (by simp))
theorem YK{n:Nat}{z:T}{r:Rw}(q:RP n z=some r):r.aS=List.replicate n z:=by
 unfold RP at q
 split at q<;>cases q
 ·simp[Rw.aS]
 ·simp[Rw.aS]
 ·simp only[Rw.aS,List.map_replicate]; rw[ZB]
theorem Rw.YL{j:Nat}{v:V}{r w:Rw}(q:r.set j v=some w):w.aS=r.aS.set j v.aH:=by
 unfold Rw.set at q
 split at q<;>first|(cases q; done)|(cases q; simp[Rw.aS,V.aH,Dat.aH,List.map_set])
theorem YM{k:Nat}{y:V}{r:Rw}{x:List V}(q:abd h k y=some (r,x)):Pg h.aj k y.aH= .list (r.aS++V.aS x):=by
 unfold abd at q
 split at q
 ·rename_i k' f w
  obtain⟨g,q⟩:=aQ q; cases q
  simp only[V.aH,Pg,V.aS,List.append_nil]
  rcases Ea g with rfl|e
  ·cases r.aS<;>simp
  ·rw[e]
 ·rename_i k' f l
  obtain⟨g,q⟩:=aQ q; cases q
  have:=jo g; subst this
  simp only[V.aH,Pg,Rw.aS,List.nil_append]
  cases hx:V.aS x<;>simp
 ·split at q
  ·rename_i o _ ty ko w z e
   obtain⟨g,q⟩:=aQ q; cases q
   have:=jo g; subst this
   simp[V.aH,Pg,aJ e,OV.aG]
  ·cases q
 ·cases q
theorem CG{r:Rw}{x:List V}:og r x=(r.aS++V.aS x).length:=by
 unfold og
 split
 ·simp[V.aS,Rw.eG]
 ·simp[gy,Rw.eG]
theorem YN{r r' w:Rw}{x x' z:List V}(q:abe r x r' x'=some (w,z)):w.aS++V.aS z=(r.aS++V.aS x)++(r'.aS++V.aS x'):=by
 unfold abe at q
 split at q
 ·split at q
  ·rename_i w' e; cases q; rw[Rw.KR e]; simp[V.aS]
  ·cases q
 ·cases q; simp[xC,Rw.aS]
 ·cases q
theorem abh{k:Int}: ∀ {es:List (Int×List Bool)},uN k (es.map vJ)=(vS k es).map fun l=>.sl 0 false (l.map T.bool):=by
 intro es
 induction es with
 |nil=>rfl
 |cons e es ih =>
  obtain⟨m,l⟩:=e
  simp only[List.map_cons,vJ,uN,T.int,vS]
  cases k==m
  ·exact ih
  ·rfl
theorem acy{k:Int}{v:T}: ∀ {es:List (Int×List Bool)},vS k es=none->yC k v (es.map vJ)=es.map vJ++[.dM [.int k,v]]:=by
 intro es
 induction es with
 |nil=>intro _; rfl
 |cons e es ih =>
  obtain⟨m,l⟩:=e
  intro h
  simp only[vS] at h
  cases hb:k==m with
  |true=>rw[hb] at h; cases h
  |false =>
   rw[hb] at h
   simp only[List.map_cons,vJ,yC,T.int,hb,cond_false,List.cons_append]
   rw[ih h]
theorem JF{N pn n nx:Nat}{d:Option Nat}{op:nO}{K:Fm->Hz->Prop}{s:AS}{dr:Bool}(hl:s.fr.length=N)(hd: ∀ i,d=some i->i<N)(R:Rp m s.fr)(hh:s.hp=h.aj)(hp:s.pin=pn)(hn:s.nx=nx)(q:YI dr d n m h K op) :
  mM P dr n d op (Kz N pn nx K) s:=by
 have hd': ∀ i,d=some i->i<s.fr.length:=fun i e=>by rw[hl]; exact hd i e
 have fin: ∀ {v:V} {h':Hz},K (iZ d v m) h'->Kz N pn nx K {(s.put d v.aH) with hp:=h'.aj}:=fun {v h'} hk =>
  ⟨_,h',by show(s.put d v.aH).fr.length=N; rw[Q5,hl],R.put (v:=v) hd' rfl,rfl,by show(s.put d v.aH).pin=pn; cases d<;>exact hp,by show(s.put d v.aH).nx=nx; cases d<;>exact hn,hk⟩
 unfold YI at q
 split at q
 ·rename_i ty k x
  split at q
  ·rename_i v e
   split at q
   rename_i v' s' hb
   cases g:Gy k [v']&&v'.kN h&&xU k with
   |false=>rw[g] at q; exact q.elim
   |true =>
    rw[g] at q
    simp only[Bool.and_eq_true] at g
    simp only[cond_true] at q
    obtain⟨hs,hk⟩:=qy q
    have ev:s.ev x=v'.aH:=by rw[R.ev e]; exact jm hb (hs (.inl rfl))
    simp only[mM]
    rw[ev,Ue g.1.1,hh,V.wI g.1.2,g.2]
    refine⟨by simp,?_⟩
    have:=fin hk
    rw[aZ] at this
    exact this
  ·exact q.elim
 ·rename_i ty k z
  cases g:z.kd==k&&z.kN h.aj&&z.free&&xU k with
  |false=>rw[g] at q; exact q.elim
  |true =>
   rw[g] at q
   simp only[mM]
   rw[hh,g]
   refine⟨rfl,?_⟩
   have:=fin q
   rw[aZ] at this
   simp only[Option.map_some,OV.aG,xB] at this
   exact this
 ·rename_i ty k bytes z x y
  split at q
  ·rename_i a b e1 e2
   cases g:z.kd==k&&z.kN h.aj&&z.free&&xU k with
   |false=>rw[g] at q; exact q.elim
   |true =>
    rw[g] at q
    simp only[cond_true] at q
    split at q
    ·rename_i r er
     obtain⟨c,hk⟩:=q
     simp only[mM]
     rw[R.ev e1,R.ev e2]
     simp only[V.aH]
     rw[hh,g]
     refine⟨rfl,c,?_⟩
     have:=fin hk
     rw[aZ] at this
     simp only[Option.map_some,OV.aG,V.aS,List.append_nil] at this
     have hr:r.aS=List.replicate a.toNat z:=by
      cases hz:isZero (.int a) with
      |false=>rw[hz] at er; exact YK er
      |true =>
       rw[hz] at er; cases er
       unfold isZero at hz
       split at hz
       ·rename_i e; cases e; rfl
       ·cases hz
     rw[hr] at this
     exact this
    ·exact q.elim
  ·exact q.elim
 ·rename_i k x v
  split at q
  ·rename_i i j off v0 e1 e2
   split at q
   rename_i v' s' hb
   cases g:Gy k [v']&&v'.kN h with
   |false=>rw[g] at q; exact q.elim
   |true =>
    rw[g] at q
    simp only[Bool.and_eq_true] at g
    simp only[cond_true] at q
    have fin2: ∀ {h':Hz},K m h'->Kz N pn nx K {s with hp:=h'.aj}:=fun {h'} hk=>⟨m,h',hl,R,rfl,hp,hn,hk⟩
    have ex:s.ev x= .ptr i j off:=R.ev e1
    simp only[mM]
    rw[ex]
    simp only
    split at q
    ·rename_i ty ko w eo
     rw[hh,aJ eo]
     simp only[OV.aG]
     cases hj:Nat.beq j 0 with
     |false=>rw[hj] at q; exact q.elim
     |true =>
      have:=jo hj; subst this
      rw[hj] at q
      simp only[cond_true] at q
      cases hb2:(Nat.beq off 0&&Nat.beq ko k) with
      |true =>
       rw[hb2] at q
       simp only[cond_true] at q
       obtain⟨hs,hk⟩:=qy q
       have ev:s.ev v=v'.aH:=by rw[R.ev e2]; exact jm hb (hs (.inl rfl))
       simp only[Bool.and_eq_true] at hb2
       have f1:=jo hb2.1; have f2:=jo hb2.2; subst f1; subst f2
       rw[ev,Ue g.1,V.wI g.2]
       refine⟨by simp,by simp,by simp,?_⟩
       have:=fin2 hk
       rw[aZ] at this
       simp only[BEq.rfl,Bool.and_self,cond_true,List.set_cons_zero]
       exact this
      |false =>
       rw[hb2] at q
       simp only[cond_false] at q
       cases hc:(!(Nat.beq ko 0)&&mF (aY ko) off k) with
       |false=>rw[hc] at q; exact q.elim
       |true =>
        rw[hc] at q
        simp only[cond_true] at q
        split at q
        ·rename_i w' hw
         rw[V.force_eq] at q
         obtain⟨hs,hk⟩:=qy q
         have ev:s.ev v=v'.aH:=by rw[R.ev e2]; exact jm hb (hs (.inl rfl))
         have hb':(off==0&&ko==k)=false:=by
          rw[Bool.and_eq_false_iff] at hb2 ⊢
          rcases hb2 with hb2|hb2
          ·left; simpa using Nat.ne_of_beq_eq_false hb2
          ·right; simpa using Nat.ne_of_beq_eq_false hb2
         simp only[Bool.and_eq_true] at hc
         rw[ev,Ue g.1,V.wI g.2]
         refine⟨by simp,by simp,?_,?_⟩
         ·simp only[hb',Bool.false_or,Bool.and_eq_true]; exact⟨WB hc.1,hc.2⟩
         ·have:=fin2 hk
          rw[aZ] at this
          simp only[hb',cond_false,List.set_cons_zero,List.getD_cons_zero]
          have ew:w.aH.splice off v'.aH=w'.aH:=by
           unfold setCells at hw
           split at hw
           ·rename_i l c f1 f2
            cases hw
            unfold T.splice
            rw[V.D8 f1,V.D8 f2]
            simp only[V.aH,xC,H8,H9,gy]
           ·cases hw
          rw[ew]
          exact this
        ·exact q.elim
    ·rename_i ty ko r eo
     rw[hh,aJ eo]
     simp only[OV.aG,V.aS,List.append_nil]
     cases hb2:(Nat.beq off 0&&Nat.beq ko k) with
     |false=>rw[hb2] at q; exact q.elim
     |true =>
      rw[hb2] at q
      simp only[cond_true] at q
      split at q
      ·rename_i r' hr
       obtain⟨hs,hk0⟩:=qy q
       obtain⟨adu,hk⟩:=hk0
       have ev:s.ev v=v'.aH:=by rw[R.ev e2]; exact jm hb (hs (.inl rfl))
       simp only[Bool.and_eq_true] at hb2
       have f1:=jo hb2.1; have f2:=jo hb2.2; subst f1; subst f2
       rw[Rw.Cj] at adu
       rw[ev,Ue g.1,V.wI g.2]
       refine⟨by simp,by rw[Rw.eG]; omega,by simp,?_⟩
       have:=fin2 hk
       rw[aZ] at this
       simp only[Option.map_some,OV.aG,V.aS,List.append_nil,Rw.YL hr] at this
       simp only[BEq.rfl,Bool.and_self,cond_true]
       exact this
      ·exact q.elim
    ·exact q.elim
  ·exact q.elim
 ·rename_i ty k bytes x y
  split at q
  ·rename_i vx vy e1 e2
   split at q
   ·rename_i r' x' es
    simp only[mM]
    rw[R.ev e1,R.ev e2,hh,YM es]
    simp only
    split at q
    ·rename_i k'
     obtain⟨c,hk⟩:=q
     have e0:(V.row k' true Rw.nil).aH= .sl k' true []:=rfl
     rw[e0]
     unfold oQ at c
     rw[CG] at c
     refine⟨.inr rfl,.inl (.inl rfl),by simpa using c.1,by simpa using c.2,?_⟩
     have:=fin hk
     rw[aZ] at this
     exact this
    ·rename_i k' r hnn
     cases hb2:Nat.beq k' k with
     |false=>rw[hb2] at q; exact q.elim
     |true =>
      rw[hb2] at q
      have:=jo hb2; subst this
      simp only[cond_true] at q
      split at q
      ·rename_i w hw
       obtain⟨c1,c2,hk⟩:=q.ok
       simp only[V.aH]
       unfold oQ at c2
       rw[CG] at c1 c2
       refine⟨.inl trivial,?_,by rw[Rw.eG]; exact c2.1,by rw[Rw.eG]; exact c2.2,?_⟩
       ·rcases c1 with (c|c)|⟨c,hk2⟩
        ·left; left; exact List.eq_nil_of_length_eq_zero (by rw[Rw.eG]; exact c)
        ·left; right; intro e; rw[e] at c; simp at c
        ·right
         refine⟨c,?_⟩
         have f1:=fin hk2
         rw[<- hh] at f1
         rw[show({(s.put d (V.row k' true r).aH) with hp:=s.hp}:AS)=s.put d (.sl k' true r.aS) by cases d<;>rfl] at f1
         exact f1
       ·have:=fin hk
        rw[aZ] at this
        simp only[Option.map_some,OV.aG,Rw.KR hw,List.append_assoc] at this
        exact this
      ·exact q.elim
    ·rename_i i
     split at q
     ·rename_i ty' ko r xx eo
      cases hb2:(Nat.beq ko k&&Nat.beq ty' ty) with
      |false=>rw[hb2] at q; exact q.elim
      |true =>
       rw[hb2] at q
       simp only[cond_true] at q
       simp only[Bool.and_eq_true] at hb2
       have f1:=jo hb2.1; have f2:=jo hb2.2; subst f1; subst f2
       split at q
       ·rename_i w z hw
        obtain⟨c,hk⟩:=q
        simp only[V.aH,aJ eo,OV.aG]
        unfold oQ at c
        rw[CG,CG] at c
        refine⟨by simp,c.1,c.2,?_⟩
        have:=fin hk
        rw[aZ,aZ] at this
        simp only[Option.map_some,Option.map_none,OV.aG,YN hw] at this
        exact this
       ·exact q.elim
     ·exact q.elim
    ·exact q.elim
   ·exact q.elim
  ·exact q.elim
 ·rename_i k z x
  split at q
  ·rename_i i lo hi e
   split at q
   ·rename_i ty ko r eo
    cases g:(Nat.beq ko k&&z.kd==k&&z.kN h.aj&&z.free) with
    |false=>rw[g] at q; exact q.elim
    |true =>
     rw[g] at q
     simp only[cond_true] at q
     obtain⟨⟨c1,c2⟩,hk⟩:=q
     simp only[Bool.and_eq_true] at g
     obtain⟨⟨⟨g1,g2⟩,g3⟩,g4⟩:=g
     have f1:=jo g1; subst f1
     simp only[mM]
     rw[R.ev e]
     simp only[V.aH,hh,aJ eo,OV.aG]
     refine⟨by simp[g2,g3,g4],by simp[Rw.eG,c2,V.aS],?_⟩
     have el:(r.take lo).aS++V.aS (List.replicate (hi-lo) (zO z))=List.take lo (r.aS++V.aS [])++List.replicate (hi-lo) z++List.drop hi (r.aS++V.aS []):=by
      rw[Rw.Cm,nP,List.map_replicate,xB]
      simp[V.aS,Rw.eG,c2]
     cases d with
     |none =>
      simp only at hk
      refine⟨_,_,hl,R,?_,hp,hn,hk⟩
      rw[aZ]
      simp only[Option.map_some,OV.aG,el]
     |some dd =>
      simp only at hk
      have:=fin hk
      rw[aZ] at this
      simp only[Option.map_some,OV.aG,el] at this
      exact this
   ·exact q.elim
  ·exact q.elim
 ·rename_i ty k z nn ps
  split at q
  ·rename_i vs s' hb
   split at q
   ·rename_i l hl
    cases g:((z.kd==k)&&z.free&&Gy k vs&&Aa h vs&&Nat.ble (nn*aY k) 16777216&&xU k) with
    |false=>rw[g] at q; exact q.elim
    |true =>
     rw[g] at q
     simp only[cond_true] at q
     obtain⟨hs,hk⟩:=qy q
     have he:=um R hb (hs (.inl rfl))
     have he':(ps.map fun p=>s.ev p.2)=V.aS vs:=by rw[<- he]; simp
     simp only[Bool.and_eq_true] at g
     obtain⟨⟨⟨⟨⟨g1,g2⟩,g3⟩,g4⟩,g5⟩,g6⟩:=g
     obtain⟨i1,i2⟩:=QY hl he' g3
     have e:V.aS (List.replicate nn (zO z))=List.replicate nn z:=by rw[nP,List.map_replicate,xB]
     rw[e] at i2
     simp only[mM]
     rw[i1,i2,he',hh,D9 g4,g1,g2,g5,g6]
     refine⟨rfl,?_⟩
     have:=fin hk
     rw[aZ] at this
     simp only[Option.map_some,OV.aG,Rw.aS,List.nil_append] at this
     exact this
   ·exact q.elim
  ·exact q.elim
 ·rename_i x
  split at q
  ·rename_i k' f r e
   obtain⟨q1,q2⟩:=q
   simp only[mM]
   rw[R.ev e]
   have f1:=fun hz=>fin (q1 hz)
   have f2:=fin q2
   rw[<- hh] at f1 f2
   refine⟨fun hl=>?_,?_⟩
   ·have:=f1 (by rw[<- Rw.eG]; exact congrArg List.length hl)
    rw[show({(s.put d (V.bool true).aH) with hp:=s.hp}:AS)=s.put d (.lit (.bool true)) by cases d<;>rfl] at this
    exact this
   ·rw[show({(s.put d (V.bool false).aH) with hp:=s.hp}:AS)=s.put d (.lit (.bool false)) by cases d<;>rfl] at f2
    exact f2
  ·rename_i i e
   split at q
   ·rename_i ty ko r eo
    cases hb:Nat.beq ko fF with
    |true=>rw[hb] at q; exact q.elim
    |false =>
     rw[hb] at q
     obtain⟨q1,q2⟩:=q
     simp only[mM]
     rw[R.ev e]
     have f1:=fun hz=>fin (q1 hz)
     have f2:=fin q2
     rw[<- hh] at f1 f2
     simp only[V.aH,hh,aJ eo,OV.aG]
     refine⟨fun hl=>?_,?_,Nat.ne_of_beq_eq_false hb⟩
     ·have:=f1 (by rw[<- Rw.eG]; simpa [V.aS] using congrArg List.length hl)
      rw[show({(s.put d (V.bool true).aH) with hp:=s.hp}:AS)=s.put d (.lit (.bool true)) by cases d<;>rfl] at this
      exact this
     ·rw[show({(s.put d (V.bool false).aH) with hp:=s.hp}:AS)=s.put d (.lit (.bool false)) by cases d<;>rfl] at f2
      exact f2
   ·exact q.elim
  ·exact q.elim
 ·rename_i ty
  simp only[mM]
  have:=fin q
  rw[aZ] at this
  rw[hh]
  exact this
 ·rename_i z x i
  split at q
  ·rename_i o k e1 e2
   split at q
   ·rename_i ty es eo
    obtain⟨q1,q2⟩:=q
    rw[dB rfl]
    simp only[qc,qt]
    rw[R.ev e1,R.ev e2]
    simp only[V.aH,T.int,hh,aJ eo,OV.aG,List.map_nil,List.append_nil,abh]
    refine⟨trivial,?_⟩
    cases hg:vS k es with
    |some l =>
     have f1:=fin (q1 l hg)
     rw[<- hh] at f1
     rw[show({(s.put d (V.dM [.row 0 false (.bools l),.bool true]).aH) with hp:=s.hp}:AS)=s.put d (.dM [.sl 0 false (l.map T.bool),.lit (.bool true)]) by cases d<;>rfl] at f1
     exact f1
    |none =>
     have f2:=fin (q2 hg)
     rw[<- hh] at f2
     rw[show({(s.put d (V.dM [zO z,.bool false]).aH) with hp:=s.hp}:AS)=s.put d (.dM [(zO z).aH,.lit (.bool false)]) by cases d<;>rfl,xB] at f2
     exact f2
   ·exact q.elim
  ·exact q.elim
 ·rename_i x i v
  split at q
  ·rename_i o k w e1 e2 e3
   split at q
   rename_i v' s' hb
   split at q
   ·rename_i ty es eo
    cases g:Gy 0 [v']&&v'.kN h with
    |false=>rw[g] at q; exact q.elim
    |true =>
     rw[g] at q
     simp only[Bool.and_eq_true] at g
     simp only[cond_true] at q
     obtain⟨hs,c,hk⟩:=qy q
     have ev:s.ev v=v'.aH:=by rw[R.ev e3]; exact jm hb (hs (.inl rfl))
     have hkd:=Ue g.1
     have hst:=V.wI g.2
     simp only[mM]
     rw[R.ev e1,R.ev e2,ev]
     simp only[V.aH,T.int,hh,aJ eo,OV.aG,List.map_nil,List.append_nil]
     refine⟨trivial,?_,?_⟩
     ·rw[hkd]
      have:v'.aH.vV h.aj=true:=by
       revert hst hkd
       cases v'.aH<;>simp[T.kN,T.kd]
      rw[this]; rfl
     ·have hK:Kz N pn nx K {s with hp:=Hz.aj ((o,some (.map ty es [(k,v')]))::h)}:=⟨m,_,hl,R,rfl,hp,hn,hk⟩
      rw[aZ] at hK
      have:=acy (v:=v'.aH) c
      simp only[T.int] at this
      rw[this]
      exact hK
   ·exact q.elim
  ·exact q.elim
 ·exact q.elim
end
section
variable {P:Program} {m:Fm} {h:Hz}
theorem Kz.put{N pn nx:Nat}{K:Fm->Hz->Prop}{s:AS}{d:Option Nat}{v:V}{t:T}{h':Hz}(hl:s.fr.length=N)(hd: ∀ i,d=some i->i<N)(R:Rp m s.fr)(hp:s.pin=pn)(hn:s.nx=nx)(ht:t=v.aH)(hk:K (iZ d v m) h') :
  Kz N pn nx K {(s.put d t) with hp:=h'.aj}:=by
 subst ht
 exact⟨_,h',by show(s.put d v.aH).fr.length=N; rw[Q5,hl],R.put (v:=v) (fun i e=>by rw[hl]; exact hd i e) rfl,rfl,by show(s.put d v.aH).pin=pn; cases d<;>exact hp,by show(s.put d v.aH).nx=nx; cases d<;>exact hn,hk⟩
theorem Ia{N pn nx n:Nat}{K:Fm->Hz->Prop}{KW:Nat->Fm->Hz->Prop}{s:AS}{d:Option Nat}{dr:Bool}{g:Option Bool}{f:FuncId}{l:List V}(hl:s.fr.length=N)(hd: ∀ i,d=some i->i<N)(R:Rp m s.fr)(hh:s.hp=h.aj)(hp:s.pin=pn)(hn:s.nx=nx)
  (hg:g=none\/g=some true) (q:ah P dr g f l h n (fun v h'=>v.seq fun v=>K (iZ d (pz g v) m) h') (fun k v h'=>v.seq fun v=>KW k (iZ d v m) h')) (hq:dr=true-> ∀ (v:V) (h':Hz),¬ (v.seq fun v=>KW 0 (iZ d v m) h')) :
  mJ P dr n d f (V.aS l) (Kz N pn nx K) s\/(dr=false/\ ∃ k,jM P f (V.aS l) s.hp n k fun t hp=>Kz N pn (nx+k) (KW k) {(s.put d t) with hp:=hp,nx:=s.nx+k}):=by
 unfold mJ
 rw[hh]
 rcases q.ok with q|⟨rfl,rfl,k,q⟩|⟨_,hdr,_,⟨_,_,v,o,_,_,hk⟩,_⟩
 rotate_left
 rotate_left
 ·exact absurd hk (hq hdr _ _)
 rotate_left
 ·refine .inr ⟨rfl,k,q.mono ?_⟩
  rintro t hp' ⟨v,h',rfl,rfl,hk⟩
  rw[V.seq_eq] at hk
  obtain⟨m',h'',a1,a2,a3,a4,_,a6⟩:=Kz.put (K:=KW k) hl hd R hp hn rfl hk
  exact⟨m',h'',a1,a2,a3,a4,by show s.nx+k=nx+k; rw[hn],a6⟩
 left
 rcases hg with rfl|rfl
 ·refine aF.mono q ?_
  rintro t hp' ⟨v,h',e1,e2,e3,hk⟩
  rw[V.seq_eq] at hk
  subst e2
  refine⟨fun e=>⟨by rw[(e3 e).1],(e3 e).2⟩,Kz.put (v:=v) hl hd R hp hn e1 hk⟩
 ·rcases q with ⟨v,c,hf,hk⟩|⟨hdr,c,_⟩
  rotate_left
  ·refine aF.mono (c rfl) ?_
   rintro t hp' ⟨v,h',e1,e2,hk⟩
   rw[V.seq_eq] at hk
   subst e2
   exact⟨fun e=>(by rw[hdr] at e; cases e),Kz.put (v:=pz (some true) v) hl hd R hp hn (e1.trans (Eb v).symm) hk⟩
  rw[V.seq_eq] at hk
  refine aF.mono (c rfl) ?_
  rintro t hp' ⟨e1,e2⟩
  subst e2
  refine⟨fun _=>⟨rfl,by rw[e1]; exact V.lX v hf⟩,Kz.put (v:=pz (some true) v) hl hd R hp hn (by rw[e1]; exact(Eb v).symm) hk⟩
theorem uX{N pn nx n:Nat}{K:Fm->Hz->Prop}{s:AS}{d:Option Nat}{dr:Bool}{g:Option Bool}{f:FuncId}{l:List V}(hl:s.fr.length=N)(hd: ∀ i,d=some i->i<N)(R:Rp m s.fr)(hh:s.hp=h.aj)(hp:s.pin=pn)(hn:s.nx=nx)
  (hg:g=none\/g=some true) (q:ah P dr g f l h n (fun v h'=>v.seq fun v=>K (iZ d (pz g v) m) h') (fun _ _ _=>False)):mJ P dr n d f (V.aS l) (Kz N pn nx K) s:=by
 rcases Ia (KW:=fun _ _ _=>False) hl hd R hh hp hn hg ⟨q.ok.imp id fun h=>h.imp (fun⟨a,b,k,c⟩=>⟨a,b,k,c.mono fun _ _ ⟨_,_,_,_,h⟩=>h.elim⟩) (fun⟨a,b,d,c⟩=>⟨a,b,d,c.mono fun _ _ ⟨_,_,_,_,h⟩=>h.elim⟩)⟩ (fun _ v h' hk=>by rw[V.seq_eq] at hk; exact hk) with h|⟨_,k,⟨t,hp',hk⟩,_⟩
 ·exact h
 ·obtain⟨_,_,_,_,_,_,_,hk⟩:=hk; exact hk.elim
theorem ah.guard{dr:Bool}{f:FuncId}{args:List V}{n:Nat}{K:V->Hz->Prop}{KW:Nat->V->Hz->Prop}(q:ah P dr (some false) f args h n K KW): ∃ v,K v h:=by
 rcases q.ok with (⟨v,_,_,k⟩|⟨_,_,k⟩)|⟨h1,_⟩|⟨h1,_⟩
 ·exact⟨v,k⟩
 ·exact⟨_,k rfl⟩
 ·cases h1
 ·cases h1
theorem Uf{dr fl:Bool}{a b c:Prop}:AX dr fl a b c↔(dr=false/\a)\/(dr=true/\bif fl then c else b):=by
 cases dr<;>cases fl<;>simp[AX]
theorem qA{dr fl:Bool}{C:Bool->Prop}(q:AX dr fl (C false) (C true) (C false)):C (dr&& !fl):=by
 cases dr<;>cases fl<;>exact q
theorem P7{N pn nx n:Nat}{KK:Nat->Fm->Hz->Prop}{s:AS}{o:aP}{dr:Bool}(hl:s.fr.length=N)(hd: ∀ i,o.d=some i->i<N)(R:Rp m s.fr)(hh:s.hp=h.aj)(hp:s.pin=pn)(hn:s.nx=nx)
  (q:abf P dr nx n o KK m h):(gv o.g s=some true/\jY o s/\(mM P (o.dr dr) n o.d o.op (Kz N pn nx (KK 0)) s\/opW P dr n o.d o.op (fun s'=> ∃ k,Kz N pn (nx+k) (KK k) s') s))\/(gv o.g s=some false/\Kz N pn nx (KK 0) (s.put o.d T.un)):=by
 unfold abf at q
 split at q
 ·exact q.elim
 ·rename_i g hg
  cases hf:JE nx o m with
  |false=>rw[hf] at q; exact q.elim
  |true =>
   rw[hf] at q
   simp only[cond_true] at q
   have hfl:jY o s:=NR R (by rw[hn]; exact hf)
   have un: ∀ {v:V} {h':Hz},h'=h->KK 0 (iZ o.d (pz (some false) v) m) h'->Kz N pn nx (KK 0) (s.put o.d T.un):=fun {v h'} e hk=>by
    subst e
    have:=Kz.put (s:=s) (v:=pz (some false) v) (t:=T.un) hl hd R hp hn (P5 v).symm hk
    rw[<- hh] at this
    have e2:({(s.put o.d T.un) with hp:=s.hp}:AS)=s.put o.d T.un:=by
     cases o.d<;>rfl
    rw[e2] at this
    exact this
   rcases Ud R hg with ⟨h1,h2⟩|⟨h1,rfl⟩
   ·refine .inl ⟨h1,hfl,?_⟩
    split at q
    ·rename_i f xs eo
     split at q
     ·rename_i l sd hb
      obtain⟨hs,q⟩:=qy q
      have ed:o.dr dr=(dr&& !o.fl):=by unfold aP.dr; rw[eo]
      rw[ed,eo]
      show mJ P (dr&& !o.fl) n o.d f (xs.map s.ev) _ s\/(dr=false/\ ∃ k,jM P f (xs.map s.ev) s.hp n k _)
      rw[um R hb (hs h2)]
      split at q
      ·rw[Uf] at q
       rcases q with ⟨e,q⟩|q
       ·rw[e]
        exact(Ia (g:=none) hl hd R hh hp hn h2 q (fun e=>by cases e)).imp id fun⟨a,k,b⟩=>⟨a,k,b.mono fun _ _ hk=>⟨k,hk⟩⟩
       ·obtain⟨hdt,q⟩:=q
        refine .inl (uX (g:=none) hl hd R hh hp hn h2 ?_)
        rw[hdt]
        cases hf2:o.fl<;>rw[hf2] at q<;>exact q
      ·rename_i bb _
       exact .inl (uX hl hd R hh hp hn h2 (qA (C:=fun dr=>ah P dr (some bb) f l h n (fun v h'=>v.seq fun v=>KK 0 (iZ o.d (pz (some bb) v) m) h') (fun _ _ _=>False)) q))
     ·exact q.elim
    ·rename_i x xs eo
     split at q
     ·rename_i v0 l sd e1 hb
      split at q
      ·rename_i f cap s0 hb0
       obtain⟨hs,q⟩:=qy q
       have hs2:=Sd.mY.1 (hs h2)
       have ed:o.dr dr=(dr&& !o.fl):=by unfold aP.dr; rw[eo]
       rw[ed,eo]
       left
       simp only[mM]
       rw[R.ev e1,jm hb0 hs2.1]
       simp only[V.aH]
       rw[um R hb hs2.2,<- xC]
       cases hbl:Nat.blt f 4096 with
       |true=>rw[hbl] at q; exact uX hl hd R hh hp hn h2 (qA (C:=fun dr=>ah P dr g f (l++cap) h n (fun v h'=>v.seq fun v=>KK 0 (iZ o.d (pz g v) m) h') (fun _ _ _=>False)) q)
       |false=>rw[hbl] at q; exact uX (l:=.agg cap::l) hl hd R hh hp hn h2 (qA (C:=fun dr=>ah P dr g (f % 4096) (.agg cap::l) h n (fun v h'=>v.seq fun v=>KK 0 (iZ o.d (pz g v) m) h') (fun _ _ _=>False)) q)
      ·exact q.elim
     ·exact q.elim
    ·rename_i hn1 hn2
     have ed:o.dr dr=dr:=by
      unfold aP.dr
      split
      ·rename_i e; exact absurd e (hn1 _ _)
      ·rename_i e; exact absurd e (hn2 _ _)
      ·rfl
     rw[ed]
     left
     split at q
     ·rename_i v sd hq
      obtain⟨hs,hk⟩:=qy q
      rw[V.seq_eq] at hk
      obtain⟨hqu,hc,ht⟩:=WH R hh hq (hs h2)
      rw[dB hqu]
      refine⟨hc,?_⟩
      have:=Kz.put (s:=s) (v:=pz g v) (t:=qt s o.op) hl hd R hp hn (by rw[ht]; rcases h2 with rfl|rfl; rfl; exact(Eb v).symm) hk
      rw[<- hh] at this
      have e2:({(s.put o.d (qt s o.op)) with hp:=s.hp}:AS)=s.put o.d (qt s o.op):=by cases o.d<;>rfl
      rw[e2] at this
      exact this
     ·split at q
      ·exact JF hl hd R hh hp hn q
      ·rename_i b _
       rcases h2 with h2|h2
       ·cases h2
       ·cases h2
        obtain⟨qa,_⟩:=q
        exact JF hl hd R hh hp hn (qa rfl)
   ·refine .inr ⟨h1,?_⟩
    split at q
    ·split at q
     ·obtain⟨hs,q⟩:=qy q
      obtain⟨v,hk⟩:=ah.guard (qA (C:=fun dr=>ah P dr (some false) _ _ h n (fun v h'=>v.seq fun v=>KK 0 (iZ o.d (pz (some false) v) m) h') (fun _ _ _=>False)) q)
      rw[V.seq_eq] at hk
      exact un rfl hk
     ·exact q.elim
    ·split at q
     ·rename_i v0 l sd e1 hb
      split at q
      ·rename_i f cap s0 hb0
       obtain⟨hs,q⟩:=qy q
       cases hbl:Nat.blt f 4096 with
       |true =>
        rw[hbl] at q
        obtain⟨v,hk⟩:=ah.guard (qA (C:=fun dr=>ah P dr (some false) f (l++cap) h n (fun v h'=>v.seq fun v=>KK 0 (iZ o.d (pz (some false) v) m) h') (fun _ _ _=>False)) q)
        rw[V.seq_eq] at hk
        exact un rfl hk
       |false =>
        rw[hbl] at q
        obtain⟨v,hk⟩:=ah.guard (qA (C:=fun dr=>ah P dr (some false) (f % 4096) (.agg cap::l) h n (fun v h'=>v.seq fun v=>KK 0 (iZ o.d (pz (some false) v) m) h') (fun _ _ _=>False)) q)
        rw[V.seq_eq] at hk
        exact un rfl hk
      ·exact q.elim
     ·exact q.elim
    ·split at q
     ·obtain⟨hs,hk⟩:=qy q
      rw[V.seq_eq] at hk
      exact un rfl hk
     ·obtain⟨_,qb⟩:=q
      exact un (v:=.int 0) rfl (qb rfl)
theorem Ug{N pn nx n:Nat}{KK:Nat->Fm->Hz->Prop}{s:AS}{o:aP}{dr:Bool}(hl:s.fr.length=N)(hd: ∀ i,o.d=some i->i<N)(R:Rp m s.fr)(hh:s.hp=h.aj)(hp:s.pin=pn)(hn:s.nx=nx)
  (q:opZ P dr nx n o KK m h):(gv o.g s=some true/\jY o s/\(mM P (o.dr dr) n o.d o.op (mkK o s (Kz N pn nx (KK 0))) s\/opW P dr n o.d o.op (fun s'=> ∃ k,Kz N pn (nx+k) (KK k) s') s))\/(gv o.g s=some false/\Kz N pn nx (KK 0) (s.put o.d T.un)):=by
 unfold opZ at q
 cases had:o.ad with
 |false =>
  rw[had] at q
  rcases P7 hl hd R hh hp hn q with ⟨h1,h2,h3⟩|h1
  ·exact .inl ⟨h1,h2,h3.imp (iJ fun s' _ _ h=>⟨fun e=>(by rw[had] at e; cases e),h⟩) id⟩
  ·exact .inr h1
 |true =>
  rw[had] at q
  simp only at q
  unfold adZ at q
  split at q
  ·rename_i f xs eo eg
   cases hf:(o.fl&&JE nx o m) with
   |false=>rw[hf] at q; exact q.elim
   |true =>
    rw[hf] at q
    simp only[cond_true] at q
    rw[Bool.and_eq_true] at hf
    have hfl:jY o s:=NR R (by rw[hn]; exact hf.2)
    refine .inl ⟨by rw[eg]; rfl,hfl,.inl ?_⟩
    split at q
    ·rename_i l sd hb
     obtain⟨hs,q⟩:=qy q
     have ed:o.dr dr=false:=by unfold aP.dr; rw[eo,hf.1]; cases dr<;>rfl
     rw[ed,eo]
     show aF P f (xs.map s.ev) s.hp n _
     rw[um R hb (hs (.inl rfl)),hh]
     have hx: ∀ {h':Hz} {s':AS},s'.hp=h'.aj->(h'=h\/ ∃ o,h'=(n,some o)::h/\h.get n=none)-> ∀ i ob,s.hp i=some ob->s'.hp i=some ob:=by
      intro h' s' e1 e2 i ob hi
      rw[e1]
      rw[hh] at hi
      rcases e2 with rfl|⟨o',rfl,hn0⟩
      ·exact hi
      ·rw[aZ]
       have hne:i≠n:=by
        rintro rfl
        simp only[Hz.aj,hn0] at hi; cases hi
       simp only[upd,if_neg hne]; exact hi
     rcases q.ok with q|⟨_,e,_⟩|⟨_,_,hn0,q⟩
     ·refine aF.mono q ?_
      rintro t hp' ⟨v,h',e1,e2,e3,hk⟩
      rw[V.seq_eq] at hk
      subst e2
      exact⟨(fun e=>by cases e),fun _=>hx rfl (.inl (e3 rfl).1),Kz.put (v:=v) hl hd R hp hn e1 hk⟩
     ·cases e
     ·refine aF.mono q ?_
      rintro t hp' ⟨v,o',e1,e2,hk⟩
      rw[V.seq_eq] at hk
      subst e2
      exact⟨(fun e=>by cases e),fun _=>hx rfl (.inr ⟨o',rfl,hn0⟩),Kz.put (v:=v) hl hd R hp hn e1 hk⟩
    ·exact q.elim
  ·exact q.elim
theorem NS{N pn ml:Nat}{K:Fm->Hz->Nat->Prop}{dr:Bool}: ∀ {nx:Nat} {ops:List aP} {i:Nat} {m:Fm} {h:Hz} {s:AS},KX N ops=true->s.fr.length=N->Rp m s.fr->s.hp=h.aj->s.pin=pn->s.nx=nx ->
  NQ P dr ml nx K ops i m h->pI P dr ml (fun s=> ∃ m h,s.fr.length=N/\Rp m s.fr/\s.hp=h.aj/\s.pin=pn/\K m h s.nx) ops i s:=by
 intro nx ops
 induction ops generalizing nx with
 |nil =>
  intro i m h s _ hl R hh hp hn q
  exact⟨m,h,hl,R,hh,hp,by show K m h (s.nx+ml); rw[hn]; exact q⟩
 |cons o r ih =>
  intro i m h s hd hl R hh hp hn q
  simp only[KX,Bool.and_eq_true] at hd
  have hd1: ∀ j,o.d=some j->j<N:=fun j e=>by
   have:=hd.1
   rw[e] at this
   simpa using this
  simp only[pI]
  rw[AB]
  have next: ∀ s',s'.nx=s.nx->s'.pin=s.pin->Kz N pn nx (NQ P dr ml nx K r (i+1)) s'->pI P dr ml (fun s=> ∃ m h,s.fr.length=N/\Rp m s.fr/\s.hp=h.aj/\s.pin=pn/\K m h s.nx) r (i+1) s':=by
   rintro s' _ _ ⟨m',h',a1,a2,a3,a4,a5,a6⟩
   exact ih hd.2 a1 a2 a3 a4 a5 a6
  have acz: ∀ s',(∃ k,Kz N pn (nx+k) (NQ P dr ml (nx+k) K r (i+1)) s')->pI P dr ml (fun s=> ∃ m h,s.fr.length=N/\Rp m s.fr/\s.hp=h.aj/\s.pin=pn/\K m h s.nx) r (i+1) s':=by
   rintro s' ⟨k,m',h',a1,a2,a3,a4,a5,a6⟩
   exact ih hd.2 a1 a2 a3 a4 a5 a6
  rcases Ug hl hd1 R hh hp hn q with ⟨h1,h2,h3⟩|⟨h1,h2⟩
  ·refine .inl ⟨h1,h2,?_⟩
   rw[hn]
   exact h3.imp (iJ fun s' a b c=>⟨c.1,next s' a b c.2⟩) (NG acz)
  ·exact .inr ⟨h1,next _ (fH _ _ _) (gQ _ _ _) h2⟩
theorem mP{N pn:Nat}: ∀ {c:dR} {Q:Qz} {m:Fm} {h:Hz} {s:AS},oH N c=true->s.fr.length=N->Rp m s.fr->s.hp=h.aj->s.pin=pn->az P N pn c Q m h s.nx->aw P c (Lift N pn Q) s:=by
 intro c
 induction c with
 |skip=>intro Q m h s _ hl R hh hp q; exact⟨m,h,hl,R,hh,hp,q⟩
 |reg dr ops =>
  intro Q m h s hd hl R hh hp q
  exact NS hd hl R hh hp rfl q
 |seq a b ia ib =>
  intro Q m h s hd hl R hh hp q
  simp only[oH,Bool.and_eq_true] at hd
  simp only[aw]
  refine jB ?_ (ia hd.1 hl R hh hp q)
  rintro e s' ⟨m',h',b1,b2,b3,b4,b5⟩
  cases e with
  |normal=>exact ib hd.2 b1 b2 b3 b4 b5
  |exit j=>exact⟨m',h',b1,b2,b3,b4,b5⟩
  |ret=>exact⟨m',h',b1,b2,b3,b4,b5⟩
 |cond c a b ia ib =>
  intro Q m h s hd hl R hh hp q
  simp only[oH,Bool.and_eq_true] at hd
  simp only[az] at q
  simp only[aw]
  split at q
  ·rename_i t e
   rw[R.ev e]
   obtain⟨q1,q2⟩:=q
   exact⟨fun e=>ia hd.1 hl R hh hp (q1 e),fun e=>ib hd.2 hl R hh hp (q2 e)⟩
  ·exact q.elim
 |blk id b ib =>
  intro Q m h s hd hl R hh hp q
  simp only[aw]
  refine jB ?_ (ib hd hl R hh hp q)
  rintro e s' ⟨m',h',b1,b2,b3,b4,b5⟩
  cases e with
  |normal=>exact⟨m',h',b1,b2,b3,b4,b5⟩
  |ret=>exact⟨m',h',b1,b2,b3,b4,b5⟩
  |exit j =>
   simp only at b5 ⊢
   by_cases e:j=id
   ·subst e; simp at b5 ⊢; exact⟨m',h',b1,b2,b3,b4,b5⟩
   ·have e1:Nat.beq j id=false:=by
     cases hb:Nat.beq j id with
     |false=>rfl
     |true=>exact absurd (jo hb) e
    have e2:(j==id)=false:=by simpa using e
    rw[e1] at b5; rw[e2]
    exact⟨m',h',b1,b2,b3,b4,b5⟩
 |exit i=>intro Q m h s _ hl R hh hp q; exact⟨m,h,hl,R,hh,hp,q⟩
 |ret=>intro Q m h s _ hl R hh hp q; exact⟨m,h,hl,R,hh,hp,q⟩
 |loop b ib =>
  intro Q m h s _ hl R hh hp q
  have:=q.ok s.fr hl R
  rw[<- hh,<- hp] at this
  simp only[aw]
  rw[hp] at this
  have e:(⟨s.fr,s.hp,s.nx,pn⟩:AS)=s:=by rw[<- hp]
  rw[e] at this
  exact this
end
end Go.Ab
