/-
 The typed layer, part 1: typed values, rows, objects. Definitions alone.
-/
import Derived.Test.YtajmbgljnaljiaaGreatDoorLd
import Derived.Test.YtajmbgljnaljiaaGreatDoorLc
namespace Go.Ab
inductive Dat where
 |lin (x:Lin)
 |UH (x:Cc)
 |rule (x:Rule)
 |mJ (x:aH)
 |cnt (x:Cnt)
 |prop (x:Prop')
 |clause (x:Clause)
 |elem (x:Elem)
@[reducible] def wQ(l:List Bool):T:=.sl 0 false (l.map T.bool)
@[reducible] def Aa(l:List (List Int)):T:=.sl 0 false (l.map Go.Ab.ints)
inductive Rw where
 |ints (l:List Int)
 |bools (l:List Bool)
 |strs (l:List Str)
 |iR (l:List (List Int))
 |gu (l:List (List Bool))
 |jw (l:List (List (List Int)))
 |vG (l:List Lin)
 |oZ (l:List Cc)
 |rules (l:List Rule)
 |cnts (l:List Cnt)
 |clauses (l:List Clause)
 |elems (l:List Elem)
 |nil
inductive V where
 |int (n:Int)
 |bool (b:Bool)
 |u8 (n:Int)
 |str (s:Str)
 |dat (d:Dat)
 |agg (l:List V)
 |row (k:Nat) (full:Bool) (r:Rw)
 |EG (k:Nat) (full:Bool) (l:List V)
 |ref (k:Nat) (v:V)
 |own (i:Nat)
 |inn (i:Nat)
 |pin (i j off:Nat)
 |ptr (i j off:Nat)
 |nO (i lo hi:Nat)
 |fn (f:FuncId) (cap:List V)
 |fU (l:List V)
 |cnd (b:Bool) (v:V)
 |raw (t:T)
def Dat.aF:Dat->T
 | .lin x=>Qr x
 | .UH x=>Oq x
 | .rule x=>GX x
 | .mJ x=>RN x
 | .cnt x=>Qs x
 | .prop x=>Xz x
 | .clause x=>E8 x
 | .elem x=>gV x
def Dat.kd:Dat->Nat
 | .lin _=>5
 | .UH _=>7
 | .rule _=>19
 | .mJ _=>11
 | .cnt _=>3
 | .prop _=>7
 | .clause _=>4
 | .elem _=>3
def Rw.aS:Rw->List T
 | .ints l=>l.map T.int
 | .bools l=>l.map T.bool
 | .strs l=>l.map eS
 | .iR l=>l.map Go.Ab.ints
 | .gu l=>l.map wQ
 | .jw l=>l.map Aa
 | .vG l=>l.map Qr
 | .oZ l=>l.map Oq
 | .rules l=>l.map GX
 | .cnts l=>l.map Qs
 | .clauses l=>l.map E8
 | .elems l=>l.map gV
 | .nil=>[]
mutual
def V.aF:V->T
 | .int n=>.int n
 | .bool b=>.bool b
 | .u8 n=>.lit (.int .u8 n)
 | .str s=>eS s
 | .dat d=>d.aF
 | .agg l=>.agg (V.aS l)
 | .row k f r=>.sl k f r.aS
 | .EG k f l=>.sl k f (V.aS l)
 | .ref k v=>.ref k v.aF
 | .own i=>.own i
 | .inn i=>.own i
 | .pin i j off=>.ptr i j off
 | .ptr i j off=>.ptr i j off
 | .nO i lo hi=>.nO i lo hi
 | .fn f cap=>.fn f (V.aS cap)
 | .fU l=>.fU (V.aS l)
 | .cnd b v=>bif b then v.aF else T.un
 | .raw t=>t
def V.aS:List V->List T
 |[]=>[]
 |v::r=>v.aF::V.aS r
end
def Dat.cells:Dat->List V
 | .lin x=>[.int x.c,.int x.n,.int x.t,.int x.f]
 | .UH x=>[.int x.message,.int x.Ik,.int x.bound.c,.int x.bound.n,.int x.bound.t,.int x.bound.f]
 | .rule x=>[.str x.name,.int x.kind,.int x.fr,.int x.to,.int x.iw,.int x.Dc,.row 0 false (.ints x.response),.row 7 false (.oZ x.guards),.row 0 false (.ints x.ex),.row 0 false (.ints x.all),.int x.read,.int x.write,.row 0 false (.ints x.send),.int x.pos,.row 0 false (.ints x.left),.row 0 false (.ints x.right),.row 0 false (.ints x.parent),.int x.direction]
 | .mJ x=>[.str x.name,.int x.topology,.row 0 false (.strs x.states),.row 0 false (.strs x.messages),.row 0 false (.strs x.values),.int x.fault,.row 5 false (.vG x.dM),.row 0 false (.ints x.initial),.row 0 false (.ints x.leader),.row 19 false (.rules x.rules)]
 | .cnt x=>[.row 0 false (.ints x.states),.int x.least]
 | .prop x=>[.str x.name,.int x.kind,.row 0 false (.ints x.start),.row 3 false (.cnts x.bad),.row 0 false (.ints x.adjacent),.row 0 false (.ints x.goal)]
 | .clause x=>[.row 0 false (.iR x.each),.row 0 false (.ints x.values),.row 0 false (.ints x.some)]
 | .elem x=>[.int x.value,.row 0 false (.ints x.counts)]
theorem Dat.DT(d:Dat):d.aF= .agg (V.aS d.cells):=by cases d<;>rfl
theorem Dat.ab5(d:Dat):d.aF.kd=d.kd:=by cases d<;>rfl
def Rw.len:Rw->Nat
 | .ints l=>l.length
 | .bools l=>l.length
 | .strs l=>l.length
 | .iR l=>l.length
 | .gu l=>l.length
 | .jw l=>l.length
 | .vG l=>l.length
 | .oZ l=>l.length
 | .rules l=>l.length
 | .cnts l=>l.length
 | .clauses l=>l.length
 | .elems l=>l.length
 | .nil=>0
def Rw.lenV:Rw->V
 | .ints l=>.int l.length
 | .bools l=>.int l.length
 | .strs l=>.int l.length
 | .iR l=>.int l.length
 | .gu l=>.int l.length
 | .jw l=>.int l.length
 | .vG l=>.int l.length
 | .oZ l=>.int l.length
 | .rules l=>.int l.length
 | .cnts l=>.int l.length
 | .clauses l=>.int l.length
 | .elems l=>.int l.length
 | .nil=>.int 0
def Rw.rng(n:Int):Rw->Prop
 | .ints l=>0<=n/\n<l.length
 | .bools l=>0<=n/\n<l.length
 | .strs l=>0<=n/\n<l.length
 | .iR l=>0<=n/\n<l.length
 | .gu l=>0<=n/\n<l.length
 | .jw l=>0<=n/\n<l.length
 | .vG l=>0<=n/\n<l.length
 | .oZ l=>0<=n/\n<l.length
 | .rules l=>0<=n/\n<l.length
 | .cnts l=>0<=n/\n<l.length
 | .clauses l=>0<=n/\n<l.length
 | .elems l=>0<=n/\n<l.length
 | .nil=>False
def Rw.xW(n:Int):Rw->Prop
 | .ints l=>0<=n/\n<=l.length
 | .bools l=>0<=n/\n<=l.length
 | .strs l=>0<=n/\n<=l.length
 | .iR l=>0<=n/\n<=l.length
 | .gu l=>0<=n/\n<=l.length
 | .jw l=>0<=n/\n<=l.length
 | .vG l=>0<=n/\n<=l.length
 | .oZ l=>0<=n/\n<=l.length
 | .rules l=>0<=n/\n<=l.length
 | .cnts l=>0<=n/\n<=l.length
 | .clauses l=>0<=n/\n<=l.length
 | .elems l=>0<=n/\n<=l.length
 | .nil=>n=0
def Rw.get(i:Nat):Rw->V
 | .ints l=>.int (l.getD i 0)
 | .bools l=>.bool (l.getD i false)
 | .strs l=>.str (l.getD i [])
 | .iR l=>.row 0 false (.ints (l.getD i []))
 | .gu l=>.row 0 false (.bools (l.getD i []))
 | .jw l=>.row 0 false (.iR (l.getD i []))
 | .vG l=>.dat (.lin (l.getD i default))
 | .oZ l=>.dat (.UH (l.getD i default))
 | .rules l=>.dat (.rule (l.getD i default))
 | .cnts l=>.dat (.cnt (l.getD i default))
 | .clauses l=>.dat (.clause (l.getD i default))
 | .elems l=>.dat (.elem (l.getD i default))
 | .nil=>.raw .any
def Rw.take(i:Nat):Rw->Rw
 | .ints l=>.ints (l.take i)
 | .bools l=>.bools (l.take i)
 | .strs l=>.strs (l.take i)
 | .iR l=>.iR (l.take i)
 | .gu l=>.gu (l.take i)
 | .jw l=>.jw (l.take i)
 | .vG l=>.vG (l.take i)
 | .oZ l=>.oZ (l.take i)
 | .rules l=>.rules (l.take i)
 | .cnts l=>.cnts (l.take i)
 | .clauses l=>.clauses (l.take i)
 | .elems l=>.elems (l.take i)
 | .nil=>.nil
def Rw.drop(i:Nat):Rw->Rw
 | .ints l=>.ints (l.drop i)
 | .bools l=>.bools (l.drop i)
 | .strs l=>.strs (l.drop i)
 | .iR l=>.iR (l.drop i)
 | .gu l=>.gu (l.drop i)
 | .jw l=>.jw (l.drop i)
 | .vG l=>.vG (l.drop i)
 | .oZ l=>.oZ (l.drop i)
 | .rules l=>.rules (l.drop i)
 | .cnts l=>.cnts (l.drop i)
 | .clauses l=>.clauses (l.drop i)
 | .elems l=>.elems (l.drop i)
 | .nil=>.nil
def Rw.app:Rw->Rw->Option Rw
 |r,.nil=>some r
 | .nil,r=>some r
 | .ints a,.ints b=>some (.ints (a++b))
 | .bools a,.bools b=>some (.bools (a++b))
 | .strs a,.strs b=>some (.strs (a++b))
 | .iR a,.iR b=>some (.iR (a++b))
 | .gu a,.gu b=>some (.gu (a++b))
 | .jw a,.jw b=>some (.jw (a++b))
 | .vG a,.vG b=>some (.vG (a++b))
 | .oZ a,.oZ b=>some (.oZ (a++b))
 | .rules a,.rules b=>some (.rules (a++b))
 | .cnts a,.cnts b=>some (.cnts (a++b))
 | .clauses a,.clauses b=>some (.clauses (a++b))
 | .elems a,.elems b=>some (.elems (a++b))
 |_,_=>none
def Rw.kd:Rw->Nat
 | .ints _=>0
 | .bools _=>0
 | .strs _=>0
 | .iR _=>0
 | .gu _=>0
 | .jw _=>0
 | .vG _=>5
 | .oZ _=>7
 | .rules _=>19
 | .cnts _=>3
 | .clauses _=>4
 | .elems _=>3
 | .nil=>0
def V.one:V->Option Rw
 | .int n=>some (.ints [n])
 | .bool b=>some (.bools [b])
 | .str s=>some (.strs [s])
 | .row 0 false (.ints l)=>some (.iR [l])
 | .row 0 false (.bools l)=>some (.gu [l])
 | .row 0 false (.iR l)=>some (.jw [l])
 | .dat (.lin x)=>some (.vG [x])
 | .dat (.UH x)=>some (.oZ [x])
 | .dat (.rule x)=>some (.rules [x])
 | .dat (.cnt x)=>some (.cnts [x])
 | .dat (.clause x)=>some (.clauses [x])
 | .dat (.elem x)=>some (.elems [x])
 | .agg [.int a,.row 0 false (.ints c)]=>some (.elems [⟨a,c⟩])
 | .agg [.row 0 false (.ints c),.int a]=>some (.cnts [⟨c,a⟩])
 | .agg [.row 0 false (.iR e),.row 0 false (.ints v),.row 0 false (.ints s)]=>some (.clauses [⟨e,v,s⟩])
 |_=>none
def Rw.Vt:List V->Option Rw
 |[]=>some .nil
 |v::r=>match v.one,Rw.Vt r with
  |some a,some b=>a.app b
  |_,_=>none
def Rw.vs:Rw->List V
 | .ints l=>l.map .int
 | .bools l=>l.map .bool
 | .strs l=>l.map .str
 | .iR l=>l.map fun c=>.row 0 false (.ints c)
 | .gu l=>l.map fun c=>.row 0 false (.bools c)
 | .jw l=>l.map fun c=>.row 0 false (.iR c)
 | .vG l=>l.map fun c=>.dat (.lin c)
 | .oZ l=>l.map fun c=>.dat (.UH c)
 | .rules l=>l.map fun c=>.dat (.rule c)
 | .cnts l=>l.map fun c=>.dat (.cnt c)
 | .clauses l=>l.map fun c=>.dat (.clause c)
 | .elems l=>l.map fun c=>.dat (.elem c)
 | .nil=>[]
inductive OV where
 |row (ty k:Nat) (r:Rw) (x:List V)
 |box (ty k:Nat) (v:V)
 |map (ty:Nat) (es:List (Int×List Bool)) (x:List (Int×V))
 |gen (ty k:Nat) (x:List V)
def La(e:Int×List Bool):T:=.fU [.int e.1,.sl 0 false (e.2.map T.bool)]
def ZN(e:Int×V):T:=.fU [.int e.1,e.2.aF]
def OV.ay:OV->Ob
 | .row ty k r x=>⟨ty,k,r.aS++V.aS x⟩
 | .box ty k v=>⟨ty,k,[v.aF]⟩
 | .map ty es x=>⟨ty,eP,es.map La++x.map ZN⟩
 | .gen ty k x=>⟨ty,k,V.aS x⟩
abbrev Fm:=List (Nat×V)
def Fm.get(i:Nat):Fm->Option V
 |[]=>none
 |(j,v)::r=>bif Nat.beq j i then some v else Fm.get i r
abbrev Hz:=List (Nat×Option OV)
def Hz.get(i:Nat):Hz->Option OV
 |[]=>none
 |(j,o)::r=>bif Nat.beq j i then o else Hz.get i r
def Hz.aj(h:Hz):Hp:=fun i=>(h.get i).map OV.ay
mutual
def uJ:T->V
 | .lit (.int .i64 n)=>.int n
 | .lit (.int .u8 n)=>.u8 n
 | .lit (.bool b)=>.bool b
 | .lit (.string b)=>.str b.data.toList
 | .sl k f []=>.row k f .nil
 | .agg l=>.agg (Vt l)
 | .fn f l=>.fn f (Vt l)
 |t=>.raw t
def Vt:List T->List V
 |[]=>[]
 |t::r=>uJ t::Vt r
end
def V.kd:V->Option Nat
 | .dat d=>some d.kd
 | .agg l=>some (l.length+1)
 | .cnd _ _=>none
 | .raw _=>none
 |_=>some 0
def V.cells:V->Option (List V)
 | .dat d=>some d.cells
 | .agg l=>some l
 | .cnd _ _=>none
 | .raw _=>none
 |v=>some [v]
def V.jv(h:Hz):V->Bool
 | .own i=>(h.get i).isSome
 | .ptr i _ _=>(h.get i).isSome
 | .nO i _ _=>(h.get i).isSome
 | .cnd _ _=>false
 | .raw _=>false
 | .fU _=>false
 | .inn _=>false
 | .pin _ _ _=>false
 |_=>true
def V.part(off:Nat):Nat->V->Option V
 |0,.dat d=>d.cells[off]?
 |0,.agg l=>l[off]?
 |k+1,.dat (.UH x)=>bif (Nat.beq off 2)&&(Nat.beq k 4) then some (.dat (.lin x.bound)) else none
 |k+1,.agg l=>some (.agg ((l.drop off).take k))
 |_,_=>none
inductive VC(p k:Prop):Prop where
 |mk:p->k->VC p k
inductive Fork(b:Bool)(x y:Prop):Prop where
 |mk:(b=true->x)->(b=false->y)->Fork b x y
inductive Sd where
 |no
 |yes (p:Prop)
def Sd.holds:Sd->Prop
 | .no=>True
 | .yes p=>p
def Sd.and:Sd->Sd->Sd
 | .no,b=>b
 |a,.no=>a
 | .yes p,.yes q=>.yes (p/\q)
def Sd.imp(t:Bool)(b:Bool):Sd->Sd
 | .no=>.no
 | .yes p=>.yes (t=b->p)
def Sd.vc(g:Option Bool)(k:Prop):Sd->Prop
 | .no=>k
 | .yes p=>match g with
  |none=>VC p k
  |some b=>VC (b=true->p) k
def V.bare:V->V×Sd
 | .cnd c v=>(v,.yes (c=true))
 |v=>(v,.no)
mutual
def V.free:V->Bool
 | .own _=>false
 | .ptr _ _ _=>false
 | .nO _ _ _=>false
 | .inn _=>false
 | .pin _ _ _=>false
 | .cnd _ _=>false
 | .raw t=>t.free
 | .agg l=>V.cZ l
 | .fn _ l=>V.cZ l
 | .fU l=>V.cZ l
 |_=>true
def V.cZ:List V->Bool
 |[]=>true
 |v::r=>V.free v&&V.cZ r
end
def xO(m:Fm):X->Option V
 | .t n=>m.get n
 | .c t=>some (uJ t)
def evL(m:Fm):List X->Option (List V)
 |[]=>some []
 |x::r=>match xO m x,evL m r with
  |some v,some l=>some (v::l)
  |_,_=>none
abbrev xP:=Option (V×Sd)
def Jw(m:Fm)(x:X)(f:V->xP):xP :=
 match xO m x with
 |some v=>match v.bare with
  |(u,s)=>match f u with
   |some (r,s')=>some (r,s.and s')
   |none=>none
 |none=>none
def qz2(m:Fm)(x y:X)(f:V->V->xP):xP:=Jw m x fun u=>Jw m y fun v=>f u v
def okI(n:Int):Prop:= -9223372036854775808<=n/\n<9223372036854775808
def abr(a b:Int):Int:=a.fdiv (2 ^ min b.toNat 64)
theorem V5(a:Int):abr a 1=a / 2:=by
 show Int.fdiv a 2=_
 rw[Int.fdiv_eq_ediv_of_nonneg _ (by decide)]
def ab6(op:BinOp):V->V->xP
 | .int a,.int b=>match op with
  | .add=>some (.int (a+b),.yes (okI (a+b)))
  | .sub=>some (.int (a-b),.yes (okI (a-b)))
  | .mul=>some (.int (a*b),.yes (okI (a*b)))
  | .eql=>some (.bool (a==b),.no)
  | .neq=>some (.bool (a !=b),.no)
  | .lss=>some (.bool (decide (a<b)),.no)
  | .leq=>some (.bool (decide (a<=b)),.no)
  | .gtr=>some (.bool (decide (b<a)),.no)
  | .geq=>some (.bool (decide (b<=a)),.no)
  |_=>none
 | .u8 a,.u8 b=>match op with
  | .eql=>some (.bool (a==b),.no)
  | .neq=>some (.bool (a !=b),.no)
  | .lss=>some (.bool (decide (a<b)),.no)
  | .leq=>some (.bool (decide (a<=b)),.no)
  | .gtr=>some (.bool (decide (b<a)),.no)
  | .geq=>some (.bool (decide (b<=a)),.no)
  |_=>none
 | .str a,.str b=>match op with
  | .eql=>some (.bool (a==b),.no)
  | .neq=>some (.bool (!(a==b)),.no)
  | .add=>some (.str (a++b),.yes (a.length+b.length<=9223372036854775807))
  |_=>none
 | .raw (.lit (.int .u64 a)),.raw (.lit (.int .u64 b))=>match op with
  | .shr=>some (.raw (.lit (.int .u64 (abr a b))),.yes (0<=b))
  | .and=>some (.raw (.lit (.int .u64 (abA .u64 a b))),.no)
  | .rem=>some (.raw (.lit (.int .u64 (a.tmod b))),.yes (b≠0))
  | .eql=>some (.bool (a==b),.no)
  | .geq=>some (.bool (decide (b<=a)),.no)
  |_=>none
 |_,_=>none
def zi:X->Bool
 | .c (.lit (.bool true))=>true
 |_=>false
def wu:X->Bool
 | .c (.lit (.bool false))=>true
 |_=>false
def aaY(t:Bool)(xa xb:X):V->V->Option V
 | .bool x,.bool y=>bif zi xa then some (.bool (t||y)) else bif wu xb then some (.bool (t&&x)) else some (.bool (bif t then x else y))
 | .int x,.int y=>some (.int (bif t then x else y))
 | .str x,.str y=>some (.str (bif t then x else y))
 |_,_=>none
def XC(t:Bool)(xa xb:X)(a b:V×Sd):xP :=
 match a,b with
 |(a,sa),(b,sb)=>match aaY t xa xb a b with
  |some v=>some (v,(sa.imp t true).and (sb.imp t false))
  |none=>none
def dB{α:Type}(b:Bool)(x:Option α):Option α:=bif b then x else none
def V.Qw(k:Nat):Option V->xP
 |some u=>some (.ref k u,.no)
 |none=>none
def V.E9:Option V->xP
 |some u=>some (u,.no)
 |none=>none
def faZ(h:Hz)(off k:Nat):V->xP
 | .ref kt v=>dB (!(Nat.beq kt 0)&&lJ (aY kt) off k) (V.Qw k (v.part off k))
 | .ptr i j o=>dB (h.get i).isSome (some (.ptr i j (o+off),.no))
 |_=>none
def fvZ(off k:Nat)(v:V):xP :=
 match v.kd with
 |some kt=>dB (!(Nat.beq kt 0)&&lJ (aY kt) off k) (V.E9 (v.part off k))
 |none=>none
def ab7:List V->Nat->Option V
 |[],_=>none
 |v::_,0=>some v
 |_::r,n+1=>ab7 r n
def iaZ(h:Hz)(k:Nat):V->V->xP
 | .EG k' _ l,.int n=>match ab7 l n.toNat with
  |some v=>dB (Nat.beq k' k) (some (.ref k v,.yes (0<=n)))
  |none=>none
 | .row k' _ r,.int n=>dB (Nat.beq k' k) (some (.ref k (r.get n.toNat),.yes (r.rng n)))
 | .own o,.int n=>match h.get o with
  |some (.row _ k' r [])=>dB (Nat.beq k' k) (some (.ptr o n.toNat 0,.yes (r.rng n)))
  |some (.gen _ k' x)=>dB (Nat.beq k' k) (some (.ptr o n.toNat 0,.yes (0<=n/\n<x.length)))
  |_=>none
 | .nO o lo hi,.int n=>match h.get o with
  |some (.row _ k' _ [])=>dB (Nat.beq k' k) (some (.ptr o (lo+n.toNat) 0,.yes (0<=n/\n<(hi-lo:Nat))))
  |_=>none
 |_,_=>none
def chZ:V->V->xP
 | .str s,.int n=>some (.u8 (s.getD n.toNat 0).toNat,.yes (0<=n/\n<s.length))
 | .str s,.u8 n=>some (.u8 (s.getD n.toNat 0).toNat,.yes (0<=n/\n<s.length))
 |_,_=>none
def ldB(k j off ko:Nat)(v:V):xP :=
 bif Nat.beq j 0 then(bif Nat.beq off 0&&Nat.beq ko k then some (v,.no) else dB (!(Nat.beq ko 0)&&lJ (aY ko) off k) (V.E9 (v.part off k))) else none
def ldR(k j off ko:Nat)(r:Rw):xP :=
 bif Nat.beq off 0&&Nat.beq ko k then some (r.get j,.yes (r.rng j)) else
  match (r.get j).part off k with
  |some u=>dB (!(Nat.beq ko 0)&&lJ (aY ko) off k) (some (u,.yes (r.rng j)))
  |none=>none
def ldZ(h:Hz)(k:Nat):V->xP
 | .ref k' v=>dB (Nat.beq k' k&&Nat.blt 0 (aY k)) (some (v,.no))
 | .ptr i j off=>match h.get i with
  |some (.box _ ko v)=>ldB k j off ko v
  |some (.row _ ko r [])=>ldR k j off ko r
  |_=>none
 |_=>none
def ncZ(h:Hz):V->xP
 | .ref k v=>some (.ref k v,.no)
 | .ptr i j o=>dB (h.get i).isSome (some (.ptr i j o,.no))
 | .fn f l=>some (.fn f l,.no)
 |_=>none
def ZO(h:Hz)(str:Bool):V->xP
 | .row _ _ r=>dB (!str) (some (r.lenV,.no))
 | .EG _ _ l=>dB (!str) (some (.int l.length,.no))
 | .str s=>dB str (some (.int s.length,.no))
 | .own o=>match h.get o with
  |some (.row _ k r x)=>dB (!str&& !(Nat.beq k eP)) (match x with|[]=>some (r.lenV,.no)|x=>some (.int (r.len+x.length),.no))
  |some (.gen _ k x)=>dB (!str&& !(Nat.beq k eP)) (some (.int x.length,.no))
  |_=>none
 | .nO o lo hi=>dB (!str&&(h.get o).isSome) (some (.int (hi-lo:Nat),.no))
 |_=>none
def mxZ:V->V->xP
 | .int a,.int b=>some (.int (max a b),.no)
 |_,_=>none
def mnZ:V->V->xP
 | .int a,.int b=>some (.int (min a b),.no)
 |_,_=>none
def yI(m:Fm):List X->Option (List V×Sd)
 |[]=>some ([],.no)
 |x::r=>match xO m x,yI m r with
  |some v,some (l,s)=>match v.bare with|(u,s')=>some (u::l,s'.and s)
  |_,_=>none
def RS:List (Nat×Nat×X)->List V->List V->Option (List V)
 |[],[],z=>some z
 |(off,n,_)::ps,v::vs,z=>match v.cells with
  |some c=>dB (Nat.beq c.length n&&Nat.ble (off+n) z.length) (RS ps vs (z.take off++c++z.drop (off+n)))
  |none=>none
 |_,_,_=>none
def zN(h:Hz):List V->Bool
 |[]=>true
 |v::r=>v.jv h&&zN h r
def mkZ(m:Fm)(h:Hz)(z:List T)(ps:List (Nat×Nat×X)):xP :=
 match yI m (ps.map fun p=>p.2.2) with
 |some (vs,s)=>match RS ps vs (Vt z) with
  |some l=>dB (zN h vs) (some (.agg l,s))
  |none=>none
 |none=>none
def CY(k:Nat):List V->Bool
 |[]=>true
 |v::r=>(match v.kd with|some k'=>Nat.beq k' k|none=>false)&&CY k r
def XD(n:Nat):List (Nat×X)->List V->List V->Option (List V)
 |[],[],z=>some z
 |(i,_)::ps,v::vs,z=>dB (Nat.blt i n) (XD n ps vs (z.set i v))
 |_,_,_=>none
def msZ(m:Fm)(h:Hz)(k:Nat)(z:T)(n:Nat)(ps:List (Nat×X)):xP :=
 match yI m (ps.map fun p=>p.2) with
 |some (vs,s)=>match XD n ps vs (List.replicate n (uJ z)) with
  |some l=>dB ((z.kd==k)&&z.free&&CY k vs&&zN h vs&&V.cZ vs&&Nat.ble (n*aY k) 16777216&&Nat.blt 0 (aY k))
    (match Rw.Vt l with
    |some r=>some (.row k true r,s)
    |none=>some (.EG k true l,s))
  |none=>none
 |none=>none
def kOk(k k':Nat):Rw->Bool
 | .nil=>true
 |_=>Nat.beq k' k
def G6(m:Fm):Option X->Option (Option V×Sd)
 |none=>some (none,.no)
 |some x=>match xO m x with
  |some v=>match v.bare with|(u,s)=>some (some u,s)
  |none=>none
def XE(k k':Nat)(f:Bool)(r:Rw):Option V->Option V->Option V->xP
 |none,none,none=>dB (kOk k k' r) (some (.row k f r,.no))
 |some (.int a),none,none=>dB (kOk k k' r) (some (.row k f (r.drop a.toNat),.yes (r.xW a)))
 |none,some (.int b),none=>dB (kOk k k' r) (some (.row k (f&&decide (b=r.len)) (r.take b.toNat),.yes (r.xW b)))
 |some (.int a),some (.int b),none=>dB (kOk k k' r) (some (.row k false ((r.take b.toNat).drop a.toNat),.yes (0<=a/\a<=b/\r.xW b)))
 |none,some (.int b),some (.int c)=>dB (kOk k k' r) (some (.row k (decide (b=c)) (r.take b.toNat),.yes (0<=b/\b<=c/\r.xW c)))
 |_,_,_=>none
def XF(k i ko:Nat)(r:Rw):Option V->Option V->Option V->xP
 |some (.int a),none,none=>dB (Nat.beq ko k) (some (.nO i a.toNat r.len,.yes (r.xW a)))
 |none,some (.int b),none=>dB (Nat.beq ko k) (some (.nO i 0 b.toNat,.yes (r.xW b)))
 |some (.int a),some (.int b),none=>dB (Nat.beq ko k) (some (.nO i a.toNat b.toNat,.yes (0<=a/\a<=b/\r.xW b)))
 |_,_,_=>none
def Qx(k i ko:Nat)(r:Rw)(xs:List V):Option V->Option V->Option V->xP
 |none,some (.int b),none=>dB (Nat.beq ko k) (some (.nO i 0 b.toNat,.yes (r.xW b)))
 |lo,hi,mx=>match xs with|[]=>XF k i ko r lo hi mx|_=>none
def slZ(h:Hz)(x:Bool)(k:Nat)(v:V)(lo hi mx:Option V):xP :=
 match v with
 | .row k' f r=>XE k k' f r lo hi mx
 | .own i=>bif x then(match h.get i with
  |some (.row _ ko r xs)=>Qx k i ko r xs lo hi mx
  |_=>none) else none
 |_=>none
def slX(m:Fm)(h:Hz)(b:Bool)(k:Nat)(x:X)(lo hi mx:Option X):xP :=
 Jw m x fun v=>match G6 m lo,G6 m hi,G6 m mx with
  |some (lo,s1),some (hi,s2),some (mx,s3)=>match slZ h b k v lo hi mx with
   |some (u,s)=>some (u,s1.and (s2.and (s3.and s)))
   |none=>none
  |_,_,_=>none
def ssZ(s:Str):Option V->Option V->xP
 |some (.int a),none=>some (.str (s.drop a.toNat),.yes (0<=a/\a<=s.length))
 |none,some (.int b)=>some (.str (s.take b.toNat),.yes (0<=b/\b<=s.length))
 |some (.int a),some (.int b)=>some (.str ((s.take b.toNat).drop a.toNat),.yes (0<=a/\a<=b/\b<=s.length))
 |_,_=>none
def ssX(m:Fm)(x:X)(lo hi:Option X):xP :=
 Jw m x fun v=>match v,G6 m lo,G6 m hi with
  | .str s,some (lo,s1),some (hi,s2)=>match ssZ s lo hi with
   |some (u,s)=>some (u,s1.and (s2.and s))
   |none=>none
  |_,_,_=>none
def exZ(i:Nat):V->xP
 | .fU l=>match l[i]? with|some v=>some (v,.no)|none=>none
 |_=>none
def ab8(ne:Bool)(n:Nat):V->V->xP
 | .dat (.lin x),.dat (.lin y)=>dB (Nat.beq n 4) (some (.bool (bif ne then !(x==y) else x==y),.no))
 | .dat (.UH x),.dat (.UH y)=>dB (Nat.beq n 6) (some (.bool (bif ne then !(x==y) else x==y),.no))
 |_,_=>none
def Eo(n:Int):List (Int×List Bool)->Option (List Bool)
 |[]=>none
 |(m,v)::r=>bif n==m then some v else Eo n r
def mfZ(m:Fm)(h:Hz)(f:FuncId)(cap:List X):xP :=
 match yI m cap with
 |some (l,s)=>dB (zN h l&&CY 0 l&&Nat.blt f 4096) (some (.fn f l,s))
 |none=>none
def mbZ(f:FuncId):V->xP
 | .agg l=>dB (Nat.blt f 4096) (some (.fn (f+4096) l,.no))
 | .dat d=>dB (Nat.blt f 4096) (some (.fn (f+4096) d.cells,.no))
 |_=>none
def ab9:V->xP
 | .row _ true r=>some (r.lenV,.no)
 |_=>none
def saZ(n:Nat):V->xP
 | .ref k (.agg l)=>match Rw.Vt l with
  |some r=>dB (Nat.beq k (n+1)&&Nat.beq l.length n&&Nat.blt 0 n) (some (.row 0 true r,.no))
  |none=>none
 |_=>none
def qz(m:Fm)(h:Hz):lu->xP
 | .mv x=>match xO m x with|some v=>some (v,.no)|none=>none
 | .pick c a b=>Jw m c fun c=>match c,xO m a,xO m b with
  | .bool t,some va,some vb=>XC t a b va.bare vb.bare
  |_,_,_=>none
 | .bin op x y=>qz2 m x y (ab6 op)
 | .bb ne x y=>qz2 m x y fun x y=>match x,y with
  | .bool a,.bool b=>some (.bool (bif ne then !(a==b) else a==b),.no)
  |_,_=>none
 | .not x=>Jw m x fun v=>match v with| .bool b=>some (.bool !b,.no)|_=>none
 | .conv .i64 x=>Jw m x fun v=>match v with
  | .int n=>some (.int n,.yes (okI n))
  | .u8 n=>some (.int n,.yes (okI n))
  | .raw (.lit (.int .u64 n))=>some (.int n,.yes (okI n))
  |_=>none
 | .conv .u64 x=>Jw m x fun v=>match v with
  | .int n=>some (.raw (.lit (.int .u64 n)),.yes (0<=n/\n<18446744073709551616))
  | .raw (.lit (.int .i64 n))=>some (.raw (.lit (.int .u64 (IntKind.u64.wrap n))),.no)
  |_=>none
 | .conv .u8 x=>Jw m x fun v=>match v with
  | .raw (.lit (.int .u64 n))=>some (.u8 n,.yes (0<=n/\n<256))
  |_=>none
 | .fa off k x=>Jw m x (faZ h off k)
 | .fv off k x=>Jw m x (fvZ off k)
 | .ia k x i=>qz2 m x i (iaZ h k)
 | .ch x i=>qz2 m x i chZ
 | .ld k x=>Jw m x (ldZ h k)
 | .nc x=>Jw m x (ncZ h)
 | .len s x=>Jw m x (ZO h s)
 | .mx x y=>qz2 m x y mxZ
 | .mn x y=>qz2 m x y mnZ
 | .mk z ps=>mkZ m h z ps
 | .ms _ k z n ps=>msZ m h k z n ps
 | .sl k x lo hi mx=>slX m h false k x lo hi mx
 | .Ud k x lo hi mx=>slX m h true k x lo hi mx
 | .ss x lo hi=>ssX m x lo hi
 | .ex x i=>Jw m x (exZ i)
 | .mf f cap=>mfZ m h f cap
 | .eqs ne n x y=>qz2 m x y (ab8 ne n)
 | .Kw x=>Jw m x ab9
 | .mb f x=>Jw m x (mbZ f)
 | .sa n x=>Jw m x (saZ n)
 |_=>none
theorem aaZ(b:ByteArray):eS b.data.toList= .lit (.string b):=by
 unfold eS bs; simp
mutual
theorem uF:(t:T)->(uJ t).aF=t
 | .lit v=>by
  cases v with
  |int k n=>cases k<;>simp[uJ,V.aF]
  |bool b=>simp[uJ,V.aF]
  |string b=>simp only[uJ,V.aF]; exact aaZ b
  |_=>simp[uJ,V.aF]
 | .agg l=>by simp only[uJ,V.aF]; rw[xu l]
 | .sl k f l=>by cases l<;>simp[uJ,V.aF,Rw.aS]
 | .ref k t=>by simp[uJ,V.aF]
 | .own i=>by simp[uJ,V.aF]
 | .ptr i j k=>by simp[uJ,V.aF]
 | .nO i j k=>by simp[uJ,V.aF]
 | .fn f l=>by simp only[uJ,V.aF]; rw[xu l]
 | .fU l=>by simp[uJ,V.aF]
 | .any=>by simp[uJ,V.aF]
theorem xu:(l:List T)->V.aS (Vt l)=l
 |[]=>rfl
 |t::r=>by simp only[Vt,V.aS]; rw[uF t,xu r]
end
theorem bY(l:List V):V.aS l=l.map V.aF:=by
 induction l with
 |nil=>rfl
 |cons v r ih=>simp[V.aS,ih]
theorem dH(l:List V):(V.aS l).length=l.length:=by rw[bY]; simp
theorem tZ(a b:List V):V.aS (a++b)=V.aS a++V.aS b:=by simp[bY]
theorem G7(a:List V)(n:Nat):V.aS (a.take n)=(V.aS a).take n:=by simp[bY]
theorem G8(a:List V)(n:Nat):V.aS (a.drop n)=(V.aS a).drop n:=by simp[bY]
def Rp(m:Fm)(fr:List T):Prop:= ∀ i v,m.get i=some v->fr[i]? =some v.aF
theorem Rp.getD{m:Fm}{fr:List T}(R:Rp m fr){i:Nat}{v:V}{d:T}(h:m.get i=some v):fr.getD i d=v.aF:=by
 rw[List.getD_eq_getElem?_getD,R i v h]; rfl
theorem Rp.ev{m:Fm}{s:AS}(R:Rp m s.fr){x:X}{v:V}(h:xO m x=some v):s.ev x=v.aF:=by
 cases x with
 |t n=>exact R.getD h
 |c t=>simp only[xO,Option.some.injEq] at h; subst h; exact(uF t).symm
theorem dI{v u:V}{s:Sd}(h:v.bare=(u,s))(hs:s.holds):v.aF=u.aF:=by
 unfold V.bare at h
 split at h
 ·cases h; simp only[Sd.holds] at hs; simp[V.aF,hs]
 ·cases h; rfl
theorem Sd.jW{a b:Sd}:(a.and b).holds↔a.holds/\b.holds:=by cases a<;>cases b<;>simp[Sd.and,Sd.holds]
theorem Sd.Jy{t b:Bool}{s:Sd}:(s.imp t b).holds↔(t=b->s.holds):=by cases s<;>simp[Sd.imp,Sd.holds]
theorem jr{m:Fm}{s:AS}(R:Rp m s.fr){x:X}{f:V->xP}{r:V}{sd:Sd}(h:Jw m x f=some (r,sd))(hs:sd.holds): ∃ u s',f u=some (r,s')/\s'.holds/\s.ev x=u.aF:=by
 unfold Jw at h
 split at h
 ·rename_i v hv
  split at h
  rename_i u s0 hb
  split at h
  ·rename_i r' s' hf
   cases h
   rw[Sd.jW] at hs
   exact⟨u,s',hf,hs.2,by rw[R.ev hv,dI hb hs.1]⟩
  ·cases h
 ·cases h
theorem xw{m:Fm}{s:AS}(R:Rp m s.fr){x y:X}{f:V->V->xP}{r:V}{sd:Sd}(h:qz2 m x y f=some (r,sd))(hs:sd.holds): ∃ u v s',f u v=some (r,s')/\s'.holds/\s.ev x=u.aF/\s.ev y=v.aF:=by
 obtain⟨u,s',h1,h2,h3⟩:=jr R h hs
 obtain⟨v,s'',h4,h5,h6⟩:=jr R h1 h2
 exact⟨u,v,s'',h4,h5,h3,h6⟩
theorem aQ{α:Type}{b:Bool}{x:Option α}{y:α}(h:dB b x=some y):b=true/\x=some y:=by
 cases b<;>simp[dB] at h; exact⟨rfl,h⟩
theorem adK{n:Int}(h1:0<=n)(h2:n<18446744073709551616):IntKind.u64.wrap n=n:=by
 have e:IntKind.u64.wrap n=(if(false&&decide (n % 18446744073709551616>=9223372036854775808))=true then n % 18446744073709551616-18446744073709551616 else n % 18446744073709551616):=rfl
 rw[e]
 simp only[Bool.false_and,Bool.false_eq_true,if_false]
 omega
theorem acd{n:Int}(h1:0<=n)(h2:n<256):IntKind.u8.wrap n=n:=by
 have e:IntKind.u8.wrap n=(if(false&&decide (n % 256>=128))=true then n % 256-256 else n % 256):=rfl
 rw[e]
 simp only[Bool.false_and,Bool.false_eq_true,if_false]
 omega
theorem RU{n:Int}(h:okI n):IntKind.i64.wrap n=n:=wrap64 h.1 h.2
theorem Rw.dF(r:Rw):r.aS.length=r.len:=by cases r<;>simp[Rw.aS,Rw.len]
theorem Rw.Lc(r:Rw):r.lenV= .int r.len:=by cases r<;>rfl
theorem Rw.xA{n:Int}{r:Rw}:r.rng n↔(0<=n/\n<r.len):=by cases r<;>simp[Rw.rng,Rw.len]<;>omega
theorem Rw.qR{n:Int}{r:Rw}:r.xW n↔(0<=n/\n<=r.len):=by cases r<;>simp[Rw.xW,Rw.len]<;>omega
theorem getD_map'{α:Type}{f:α->T}{l:List α}{i:Nat}{d:α}(h:i<l.length):(l.map f).getD i .any=f (l.getD i d):=by
 simp[List.getD_eq_getElem?_getD,h]
theorem Rw.Ld{r:Rw}{i:Nat}(h:i<r.len):r.aS.getD i .any=(r.get i).aF:=by
 cases r<;>simp only[Rw.len] at h<;>simp only[Rw.aS,Rw.get,V.aF,Dat.aF,Rw.aS]<;>first|exact getD_map' h|omega
theorem Rw.yJ(r:Rw)(n:Nat):(r.take n).aS=r.aS.take n:=by cases r<;>simp[Rw.take,Rw.aS]
theorem Rw.Ov(r:Rw)(n:Nat):(r.drop n).aS=r.aS.drop n:=by cases r<;>simp[Rw.drop,Rw.aS]
theorem Rw.Pn(r:Rw):V.aS r.vs=r.aS:=by
 rw[bY]
 cases r<;>simp[Rw.vs,Rw.aS,V.aF,Dat.aF]
theorem Rw.VO(r:Rw):r.vs.length=r.len:=by cases r<;>simp[Rw.vs,Rw.len]
theorem Rw.Fa{a b c:Rw}(h:a.app b=some c):c.aS=a.aS++b.aS:=by
 unfold Rw.app at h
 split at h<;>first|(cases h; done)|(cases h; simp[Rw.aS])
theorem Rw.VI(r:Rw)(n:Nat):(r.take n).len=min n r.len:=by rw[<- Rw.dF,Rw.yJ,List.length_take,Rw.dF]
theorem V.ZP{v:V}{r:Rw}(h:v.one=some r):r.aS=[v.aF]:=by
 unfold V.one at h
 split at h<;>first|(cases h; done)|(cases h; simp[Rw.aS,V.aF,V.aS,Dat.aF,gV,Qs,E8])
theorem Rw.xu: ∀ {l:List V} {r:Rw},Rw.Vt l=some r->r.aS=V.aS l:=by
 intro l
 induction l with
 |nil=>intro r h; cases h; rfl
 |cons v l ih =>
  intro r h
  simp only[Rw.Vt] at h
  split at h
  ·rename_i a b h1 h2
   rw[Rw.Fa h,V.ZP h1,ih h2]; rfl
  ·cases h
theorem V.Le{v:V}{k:Nat}(h:v.kd=some k):v.aF.kd=k:=by
 cases v with
 |dat d=>cases h; exact Dat.ab5 d
 |_=>simp only[V.kd,Option.some.injEq,reduceCtorEq] at h<;>subst h<;>simp[V.aF,T.kd,eS,dH]
theorem V.DU{v:V}{l:List V}(h:v.cells=some l):v.aF.cells=V.aS l:=by
 cases v<;>simp only[V.cells,Option.some.injEq,reduceCtorEq] at h<;>subst h<;>simp[V.aF,Dat.DT,T.cells,eS,V.aS]
theorem Hz.wz{h:Hz}{i:Nat}:(h.aj i).isSome=(h.get i).isSome:=by simp[Hz.aj]
theorem V.oO{h:Hz}{v:V}(hv:v.jv h=true):v.aF.jv h.aj=true:=by
 cases v<;>simp only[V.jv,Bool.false_eq_true] at hv<;>simp[V.aF,T.jv,T.vM,eS,Value.oneCell',Hz.wz,hv]
 rename_i d
 cases d<;>rfl
theorem V.XG{h:Hz}{v:V}(hv:v.jv h=true)(hk:v.kd=some 0):v.aF.vM h.aj=true:=by
 cases v<;>simp only[V.jv,Bool.false_eq_true] at hv<;>simp only[V.kd,Option.some.injEq,Nat.succ_ne_zero] at hk<;>simp[V.aF,T.vM,eS,Value.oneCell',Hz.wz,hv]
 rename_i d
 cases d<;>cases hk
theorem Dat.free(d:Dat):d.aF.free=true:=by cases d<;>rfl
mutual
theorem V.kL:(v:V)->v.free=true->v.aF.free=true
 | .int _,_=>by simp[V.aF,T.free]
 | .bool _,_=>by simp[V.aF,T.free]
 | .u8 _,_=>by simp[V.aF,T.free]
 | .str _,_=>by simp[V.aF,T.free,eS]
 | .dat d,_=>by simp only[V.aF]; exact d.free
 | .agg l,h=>by simp only[V.aF,T.free]; simp only[V.free] at h; exact V.jB l h
 | .row _ _ _,_=>by simp[V.aF,T.free]
 | .EG _ _ _,_=>by simp[V.aF,T.free]
 | .ref _ _,_=>by simp[V.aF,T.free]
 | .own _,h=>by simp[V.free] at h
 | .inn _,h=>by simp[V.free] at h
 | .pin _ _ _,h=>by simp[V.free] at h
 | .ptr _ _ _,h=>by simp[V.free] at h
 | .nO _ _ _,h=>by simp[V.free] at h
 | .fn _ l,h=>by simp only[V.aF,T.free]; simp only[V.free] at h; exact V.jB l h
 | .fU l,h=>by simp only[V.aF,T.free]; simp only[V.free] at h; exact V.jB l h
 | .cnd _ _,h=>by simp[V.free] at h
 | .raw t,h=>by simp only[V.aF]; simpa only[V.free] using h
theorem V.jB:(l:List V)->V.cZ l=true->T.cZ (V.aS l)=true
 |[],_=>by simp[V.aS,T.cZ]
 |v::r,h=>by
  simp only[V.cZ,Bool.and_eq_true] at h
  simp only[V.aS,T.cZ,Bool.and_eq_true]
  exact⟨V.kL v h.1,V.jB r h.2⟩
end
theorem uG{l:List V}{i:Nat}{u:V}(h:l[i]? =some u):(V.aS l).getD i .any=u.aF:=by
 rw[bY,List.getD_eq_getElem?_getD,List.getElem?_map,h]; rfl
theorem V.Ce{off k:Nat}{v u:V}(h:v.part off k=some u):v.aF.part off k=u.aF:=by
 unfold V.part at h
 split at h
 ·simp only[V.aF,Dat.DT,T.part,T.cells]; exact uG h
 ·simp only[V.aF,T.part,T.cells]; exact uG h
 ·rename_i k x
  cases hb:(Nat.beq off 2)&&(Nat.beq k 4) with
  |false=>rw[hb] at h; cases h
  |true =>
   rw[hb] at h
   simp only[Bool.and_eq_true,Nat.beq_eq] at hb
   obtain⟨rfl,rfl⟩:=hb
   cases h; rfl
 ·cases h
  simp only[V.aF,T.part,T.cells,G7,G8]
 ·cases h
theorem eF{a b:Nat}(h:Nat.beq a b=true):a=b:=Nat.eq_of_beq_eq_true h
section
variable {m:Fm} {h:Hz} {s:AS}
def Ok(s:AS)(op:lu)(v:V):Prop:=qc s op/\qt s op=v.aF
theorem ZQ{op:BinOp}{x y:X}{u v r:V}{sd:Sd}(q:ab6 op u v=some (r,sd))(hs:sd.holds)(h1:s.ev x=u.aF)(h2:s.ev y=v.aF):Ok s (.bin op x y) r:=by
 unfold Ok; simp only[qc,qt]; rw[h1,h2]
 unfold ab6 at q
 split at q
 ·rename_i a b
  split at q<;>first|(cases q; done)|(cases q; simp only[Sd.holds] at hs; simp[V.aF,zy,Yw,RU,hs])
 ·split at q<;>first|(cases q; done)|(cases q; simp[V.aF,zy,Yw])
 ·split at q
  ·cases q; simp[V.aF,zy,eS,DN]
  ·cases q; simp[V.aF,zy,eS,DN]
  ·rename_i a b _
   cases q
   simp only[Sd.holds] at hs
   have hsz:(((bs a).size+(bs b).size:Nat):Int)<=9223372036854775807:=by
    have e1:(bs a).size=a.length:=by simp[bs,ByteArray.size]
    have e2:(bs b).size=b.length:=by simp[bs,ByteArray.size]
    rw[e1,e2]; exact Int.ofNat_le.2 hs
   have hap:bs a++bs b=bs (a++b):=by apply ByteArray.ext; simp[bs]
   have hsz2:((bs a).size:Int)+(bs b).size<=9223372036854775807:=by omega
   simp[V.aF,zy,eS,hsz2,hap]
  ·cases q
 ·split at q
  ·cases q
   simp only[Sd.holds] at hs
   refine⟨?_,?_⟩
   ·simp only[V.aF,zy,hs,decide_true,cond_true,Option.isSome]
   ·simp only[V.aF,zy,hs,decide_true,cond_true]; rfl
  ·cases q; simp[V.aF,zy,Yw]
  ·cases q
   simp only[Sd.holds] at hs
   simp[V.aF,zy,Yw,hs]
  ·cases q; simp[V.aF,zy,Yw]
  ·cases q; simp[V.aF,zy,Yw]
  ·cases q
 ·cases q
theorem Qy{x:X}(hx:zi x=true):x= .c (.lit (.bool true)):=by
 unfold zi at hx
 split at hx
 ·rfl
 ·cases hx
theorem Ox{x:X}(hx:wu x=true):x= .c (.lit (.bool false)):=by
 unfold wu at hx
 split at hx
 ·rfl
 ·cases hx
theorem XH{c xa xb:X}{t:Bool}{va vb r:V}{sd:Sd}(R:Rp m s.fr)(ha:xO m xa=some va)(hb:xO m xb=some vb)(q:XC t xa xb va.bare vb.bare=some (r,sd))(hs:sd.holds)(hc:s.ev c= .lit (.bool t)):Ok s (.pick c xa xb) r:=by
 unfold Ok; simp only[qc,qt]; rw[hc]
 refine⟨rfl,?_⟩
 unfold XC at q
 split at q
 rename_i a sa b sb ea eb
 split at q
 ·rename_i v hp
  cases q
  rw[Sd.jW,Sd.Jy,Sd.Jy] at hs
  have h1:t=true->s.ev xa=a.aF:=fun e=>by rw[R.ev ha,dI ea (hs.1 e)]
  have h2:t=false->s.ev xb=b.aF:=fun e=>by rw[R.ev hb,dI eb (hs.2 e)]
  unfold aaY at hp
  split at hp
  ·rename_i x y
   have hp':r= .bool (bif zi xa then t||y else bif wu xb then t&&x else bif t then x else y):=by
    cases e1:zi xa<;>cases e2:wu xb<;>simp[e1,e2] at hp ⊢ <;>exact hp.symm
   subst hp'
   have key:yt (.lit (.bool t)) (s.ev xa) (s.ev xb)= .lit (.bool (bif t then x else y)):=by
    cases t with
    |true =>
     rw[h1 rfl]; simp only[V.aF,yt]
     split<;>simp_all
    |false =>
     rw[h2 rfl]; simp only[V.aF,yt]
     split<;>simp_all
   rw[key]
   simp only[V.aF]
   congr 2
   cases e1:zi xa with
   |true =>
    have:=Qy e1; subst this
    simp only[xO,Option.some.injEq] at ha; subst ha
    simp only[uJ,V.bare,Prod.mk.injEq] at ea
    have:=ea.1; cases this
    cases t<;>rfl
   |false =>
    cases e2:wu xb with
    |true =>
     have:=Ox e2; subst this
     simp only[xO,Option.some.injEq] at hb; subst hb
     simp only[uJ,V.bare,Prod.mk.injEq] at eb
     have:=eb.1; cases this
     cases t<;>simp
    |false=>rfl
  ·cases hp
   cases t with
   |true=>rw[h1 rfl]; simp only[V.aF,yt,cond_true]
   |false=>rw[h2 rfl]; simp only[V.aF,yt,cond_false]; split<;>simp_all
  ·cases hp
   cases t with
   |true=>rw[h1 rfl]; simp only[V.aF,yt,cond_true,eS]
   |false=>rw[h2 rfl]; simp only[V.aF,yt,cond_false,eS]; split<;>simp_all
  ·cases hp
 ·cases q
theorem QA{k:Nat}{p:Option V}{r:V}{sd:Sd}(q:V.Qw k p=some (r,sd)): ∃ u,p=some u/\r= .ref k u:=by
 unfold V.Qw at q
 split at q
 ·cases q; exact⟨_,rfl,rfl⟩
 ·cases q
theorem Ep{p:Option V}{r:V}{sd:Sd}(q:V.E9 p=some (r,sd)):p=some r:=by
 unfold V.E9 at q
 split at q
 ·cases q; rfl
 ·cases q
theorem XI{k:Nat}(h:(!(Nat.beq k 0))=true):(!(k==0))=true:=by
 cases k<;>simp_all
theorem ace(hh:s.hp=h.aj){off k:Nat}{x:X}{u r:V}{sd:Sd}(q:faZ h off k u=some (r,sd))(h1:s.ev x=u.aF):Ok s (.fa off k x) r:=by
 unfold Ok; simp only[qc,qt]; rw[h1]
 unfold faZ at q
 split at q
 ·obtain⟨g,q⟩:=aQ q
  obtain⟨u,e,rfl⟩:=QA q
  simp only[Bool.and_eq_true] at g
  simp only[V.aF,V.Ce e,Bool.and_eq_true]
  exact⟨⟨XI g.1,g.2⟩,trivial⟩
 ·obtain⟨g,q⟩:=aQ q
  cases q
  simp only[V.aF,hh,Hz.wz,g,and_self]
 ·cases q
theorem acf{off k:Nat}{x:X}{u r:V}{sd:Sd}(q:fvZ off k u=some (r,sd))(h1:s.ev x=u.aF):Ok s (.fv off k x) r:=by
 unfold Ok; simp only[qc,qt]; rw[h1]
 unfold fvZ at q
 split at q
 ·rename_i kt hk
  obtain⟨g,q⟩:=aQ q
  rw[V.Le hk,V.Ce (Ep q)]
  simp only[Bool.and_eq_true] at g ⊢
  exact⟨⟨XI g.1,g.2⟩,trivial⟩
 ·cases q
theorem aO{i:Nat}{o:OV}(e:h.get i=some o):h.aj i=some o.ay:=by simp[Hz.aj,e]
theorem ZR: ∀ {l:List V} {i:Nat} {v:V},ab7 l i=some v->i<l.length/\(V.aS l).getD i .any=v.aF:=by
 intro l
 induction l with
 |nil=>intro i v h; cases h
 |cons u r ih =>
  intro i v h
  cases i with
  |zero=>cases h; exact⟨Nat.succ_pos _,rfl⟩
  |succ i =>
   obtain⟨a,b⟩:=ih h
   exact⟨Nat.succ_lt_succ a,by simpa [V.aS] using b⟩
theorem XJ(hh:s.hp=h.aj){k:Nat}{x i:X}{u v r:V}{sd:Sd}(q:iaZ h k u v=some (r,sd))(hs:sd.holds)(h1:s.ev x=u.aF)(h2:s.ev i=v.aF):Ok s (.ia k x i) r:=by
 unfold Ok; simp only[qc,qt]; rw[h1,h2]
 unfold iaZ at q
 split at q
 ·rename_i k' f l n
  split at q
  ·rename_i v hv
   obtain⟨g,q⟩:=aQ q
   cases q
   have:=eF g; subst this
   simp only[Sd.holds] at hs
   obtain⟨a,b⟩:=ZR hv
   simp only[V.aF,WX,dH]
   exact⟨⟨trivial,hs,by omega⟩,by rw[b]⟩
  ·cases q
 ·rename_i k' f w n
  obtain⟨g,q⟩:=aQ q
  cases q
  have:=eF g; subst this
  simp only[Sd.holds,Rw.xA] at hs
  simp only[V.aF,WX,Rw.dF]
  refine⟨⟨trivial,hs⟩,?_⟩
  rw[Rw.Ld (by omega)]
 ·rename_i o n
  split at q
  ·rename_i ty k' w e
   obtain⟨g,q⟩:=aQ q
   cases q
   have:=eF g; subst this
   simp only[Sd.holds,Rw.xA] at hs
   simp only[V.aF,hh,aO e,OV.ay,V.aS,List.append_nil,WX,Rw.dF]
   exact⟨⟨trivial,hs⟩,trivial⟩
  ·rename_i ty k' x e
   obtain⟨g,q⟩:=aQ q
   cases q
   have:=eF g; subst this
   simp only[Sd.holds] at hs
   simp only[V.aF,hh,aO e,OV.ay,WX,dH]
   exact⟨⟨trivial,hs⟩,trivial⟩
  ·cases q
 ·rename_i o lo hi n
  split at q
  ·rename_i ty k' w e
   obtain⟨g,q⟩:=aQ q
   cases q
   have:=eF g; subst this
   simp only[Sd.holds] at hs
   simp only[V.aF,hh,aO e,OV.ay,WX]
   exact⟨⟨trivial,hs⟩,trivial⟩
  ·cases q
 ·cases q
theorem acg{x i:X}{u v r:V}{sd:Sd}(q:chZ u v=some (r,sd))(hs:sd.holds)(h1:s.ev x=u.aF)(h2:s.ev i=v.aF):Ok s (.ch x i) r:=by
 unfold Ok; simp only[qc,qt]; rw[h1,h2]
 unfold chZ at q
 split at q
 ·cases q
  simp only[Sd.holds] at hs
  simp only[V.aF,eS,WX,zh,XA]
  exact⟨hs,trivial⟩
 ·cases q
  simp only[Sd.holds] at hs
  simp only[V.aF,eS,WX,zh,XA]
  exact⟨hs,trivial⟩
 ·cases q
theorem QB(hh:s.hp=h.aj){k:Nat}{x:X}{u r:V}{sd:Sd}(q:ldZ h k u=some (r,sd))(hs:sd.holds)(h1:s.ev x=u.aF):Ok s (.ld k x) r:=by
 unfold Ok; simp only[qc,qt]; rw[h1]
 unfold ldZ at q
 split at q
 ·obtain⟨g,q⟩:=aQ q
  cases q
  simp only[Bool.and_eq_true] at g
  have:=eF g.1; subst this
  simp[V.aF,g.2]
 ·rename_i i j off
  split at q
  ·rename_i ty ko v e
   simp only[V.aF,hh,aO e,OV.ay]
   unfold ldB at q
   cases hj:Nat.beq j 0 with
   |false=>rw[hj] at q; cases q
   |true =>
    have:=eF hj; subst this
    rw[hj] at q
    simp only[cond_true] at q
    cases hb:(Nat.beq off 0&&Nat.beq ko k) with
    |true =>
     rw[hb] at q; cases q
     simp only[Bool.and_eq_true] at hb
     have e1:=eF hb.1; have e2:=eF hb.2; subst e1; subst e2
     simp
    |false =>
     rw[hb] at q
     simp only[cond_false] at q
     obtain⟨g,q⟩:=aQ q
     have hb':(off==0&&ko==k)=false:=by
      rw[Bool.and_eq_false_iff] at hb ⊢
      rcases hb with hb|hb
      ·left; simpa using Nat.ne_of_beq_eq_false hb
      ·right; simpa using Nat.ne_of_beq_eq_false hb
     simp only[hb',cond_false,Bool.false_or,List.getD_cons_zero,V.Ce (Ep q),List.length_cons,List.length_nil]
     simp only[Bool.and_eq_true] at g ⊢
     exact⟨⟨by omega,XI g.1,g.2⟩,trivial⟩
  ·rename_i ty ko w e
   simp only[V.aF,hh,aO e,OV.ay,V.aS,List.append_nil]
   unfold ldR at q
   cases hb:(Nat.beq off 0&&Nat.beq ko k) with
   |true =>
    rw[hb] at q; cases q
    simp only[Bool.and_eq_true] at hb
    have e1:=eF hb.1; have e2:=eF hb.2; subst e1; subst e2
    simp only[Sd.holds,Rw.xA] at hs
    have hlt:j<w.len:=by omega
    simp only[BEq.rfl,Bool.and_self,Bool.true_or,cond_true,Rw.dF,Rw.Ld hlt]
    exact⟨⟨hlt,trivial⟩,trivial⟩
   |false =>
    rw[hb] at q
    simp only[cond_false] at q
    split at q
    ·rename_i u hu
     obtain⟨g,q⟩:=aQ q
     cases q
     have hb':(off==0&&ko==k)=false:=by
      rw[Bool.and_eq_false_iff] at hb ⊢
      rcases hb with hb|hb
      ·left; simpa using Nat.ne_of_beq_eq_false hb
      ·right; simpa using Nat.ne_of_beq_eq_false hb
     simp only[Sd.holds,Rw.xA] at hs
     have hlt:j<w.len:=by omega
     simp only[hb',cond_false,Bool.false_or,Rw.dF,Rw.Ld hlt,V.Ce hu]
     simp only[Bool.and_eq_true] at g ⊢
     exact⟨⟨hlt,XI g.1,g.2⟩,trivial⟩
    ·cases q
  ·cases q
 ·cases q
theorem ach(hh:s.hp=h.aj){x:X}{u r:V}{sd:Sd}(q:ncZ h u=some (r,sd))(h1:s.ev x=u.aF):Ok s (.nc x) r:=by
 unfold Ok; simp only[qc,qt]; rw[h1]
 unfold ncZ at q
 split at q
 ·cases q; simp[V.aF]
 ·obtain⟨g,q⟩:=aQ q; cases q; simp[V.aF,hh,Hz.wz,g]
 ·cases q; simp[V.aF]
 ·cases q
theorem RX(hh:s.hp=h.aj){str:Bool}{x:X}{u r:V}{sd:Sd}(q:ZO h str u=some (r,sd))(h1:s.ev x=u.aF):Ok s (.len str x) r:=by
 unfold Ok; simp only[qc,qt]; rw[h1]
 unfold ZO at q
 split at q
 ·obtain⟨g,q⟩:=aQ q; cases q
  simp only[Bool.not_eq_true'] at g
  simp[V.aF,Rw.Lc,Rw.dF,g]
 ·obtain⟨g,q⟩:=aQ q; cases q
  simp only[Bool.not_eq_true'] at g
  simp[V.aF,dH,g]
 ·obtain⟨g,q⟩:=aQ q; cases q
  simp[V.aF,eS,zh,g]
 ·rename_i o
  split at q
  ·rename_i ty k w y e
   obtain⟨g,q⟩:=aQ q
   simp only[Bool.and_eq_true,Bool.not_eq_true'] at g
   have hk:k≠eP:=Nat.ne_of_beq_eq_false g.2
   split at q
   ·cases q
    simp only[V.aF,hh,aO e,OV.ay,V.aS,List.append_nil,Rw.Lc,Rw.dF]
    exact⟨⟨g.1,hk⟩,trivial⟩
   ·cases q
    simp only[V.aF,hh,aO e,OV.ay,List.length_append,dH,Rw.dF]
    exact⟨⟨g.1,hk⟩,by simp⟩
  ·rename_i ty k x e
   obtain⟨g,q⟩:=aQ q
   cases q
   simp only[Bool.and_eq_true,Bool.not_eq_true'] at g
   simp only[V.aF,hh,aO e,OV.ay,dH]
   exact⟨⟨g.1,Nat.ne_of_beq_eq_false g.2⟩,trivial⟩
  ·cases q
 ·rename_i o lo hi
  obtain⟨g,q⟩:=aQ q; cases q
  simp only[Bool.and_eq_true,Bool.not_eq_true'] at g
  simp[V.aF,hh,Hz.wz,g]
 ·cases q
theorem aci{x y:X}{u v r:V}{sd:Sd}(q:mxZ u v=some (r,sd))(h1:s.ev x=u.aF)(h2:s.ev y=v.aF):Ok s (.mx x y) r:=by
 unfold Ok; simp only[qc,qt]; rw[h1,h2]
 unfold mxZ at q
 split at q
 ·rename_i a b
  cases q; simp only[V.aF,true_and]; congr 2; split<;>omega
 ·cases q
theorem acj{x y:X}{u v r:V}{sd:Sd}(q:mnZ u v=some (r,sd))(h1:s.ev x=u.aF)(h2:s.ev y=v.aF):Ok s (.mn x y) r:=by
 unfold Ok; simp only[qc,qt]; rw[h1,h2]
 unfold mnZ at q
 split at q
 ·rename_i a b
  cases q; simp only[V.aF,true_and]; congr 2; split<;>omega
 ·cases q
theorem acn{i:Nat}{x:X}{u r:V}{sd:Sd}(q:exZ i u=some (r,sd))(h1:s.ev x=u.aF):Ok s (.ex x i) r:=by
 unfold Ok; simp only[qc,qt]; rw[h1]
 unfold exZ at q
 split at q
 ·split at q
  ·rename_i l _ v e
   cases q
   have hi:i<l.length:=(List.getElem?_eq_some_iff.1 e).1
   simp only[V.aF,Nat.blt_eq,dH,uG e]
   exact⟨hi,trivial⟩
  ·cases q
 ·cases q
theorem ZT{ne:Bool}{n:Nat}{x y:X}{u v r:V}{sd:Sd}(q:ab8 ne n u v=some (r,sd))(h1:s.ev x=u.aF)(h2:s.ev y=v.aF):Ok s (.eqs ne n x y) r:=by
 unfold Ok; simp only[qc,qt]; rw[h1,h2]
 unfold ab8 at q
 split at q
 ·rename_i x y
  obtain⟨g,q⟩:=aQ q; cases q
  have:=eF g; subst this
  have e:pR [.int x.c,.int x.n,.int x.t,.int x.f] [.int y.c,.int y.n,.int y.t,.int y.f]=(x==y):=by
   cases x; cases y; simp[pR,BEq.beq]
  simp only[V.aF,Dat.aF,Qr,e]
  exact⟨rfl,trivial⟩
 ·rename_i x y
  obtain⟨g,q⟩:=aQ q; cases q
  have:=eF g; subst this
  have e:pR [.int x.message,.int x.Ik,.int x.bound.c,.int x.bound.n,.int x.bound.t,.int x.bound.f] [.int y.message,.int y.Ik,.int y.bound.c,.int y.bound.n,.int y.bound.t,.int y.bound.f]=(x==y):=by
   obtain⟨a,b,c,d,e,f⟩:=x; obtain⟨a',b',c',d',e',f'⟩:=y; simp[pR,BEq.beq]
  simp only[V.aF,Dat.aF,Oq,e]
  exact⟨rfl,trivial⟩
 ·cases q
theorem aco{n:Nat}{x:X}{u r:V}{sd:Sd}(q:saZ n u=some (r,sd))(h1:s.ev x=u.aF):Ok s (.sa n x) r:=by
 unfold Ok; simp only[qc,qt]; rw[h1]
 unfold saZ at q
 split at q
 ·rename_i k l
  split at q
  ·rename_i w hw
   obtain⟨g,q⟩:=aQ q; cases q
   simp only[V.aF,dH]
   exact⟨g,by rw[Rw.xu hw]⟩
  ·cases q
 ·cases q
theorem ZU{x:X}{u r:V}{sd:Sd}(q:ab9 u=some (r,sd))(h1:s.ev x=u.aF):Ok s (.Kw x) r:=by
 unfold Ok; simp only[qc,qt]; rw[h1]
 unfold ab9 at q
 split at q
 ·cases q; simp[V.aF,Rw.Lc,Rw.dF]
 ·cases q
end
section
variable {m:Fm} {h:Hz} {s:AS}
theorem qU(R:Rp m s.fr): ∀ {xs:List X} {l:List V} {sd:Sd},yI m xs=some (l,sd)->sd.holds->xs.map s.ev=V.aS l:=by
 intro xs
 induction xs with
 |nil=>intro l sd q _; cases q; rfl
 |cons x r ih =>
  intro l sd q hs
  simp only[yI] at q
  split at q
  ·rename_i v l' s' h1 h2
   cases q
   rw[Sd.jW] at hs
   simp only[List.map_cons,V.aS]
   rw[R.ev h1,dI (v:=v) (u:=v.bare.1) (s:=v.bare.2) rfl hs.1,ih h2 hs.2]
  ·cases q
theorem DV: ∀ {l:List V},zN h l=true->sV h.aj (V.aS l)=true:=by
 intro l
 induction l with
 |nil=>intro _; rfl
 |cons v r ih =>
  intro q
  simp only[zN,Bool.and_eq_true] at q
  simp only[V.aS,sV,Bool.and_eq_true]
  exact⟨V.oO q.1,ih q.2⟩
theorem Fb{k:Nat}: ∀ {l:List V},CY k l=true-> ∀ v∈l,v.kd=some k:=by
 intro l
 induction l with
 |nil=>intro _ v hv; cases hv
 |cons u r ih =>
  intro q v hv
  simp only[CY,Bool.and_eq_true] at q
  rcases List.mem_cons.1 hv with rfl|hv
  ·have:=q.1
   split at this
   ·rename_i k' e; rw[e,eF this]
   ·cases this
  ·exact ih q.2 v hv
theorem UJ: ∀ {l:List V},zN h l=true->CY 0 l=true->wS h.aj (V.aS l)=true:=by
 intro l
 induction l with
 |nil=>intro _ _; rfl
 |cons v r ih =>
  intro q k
  have hk:=Fb k v (by simp)
  simp only[zN,CY,Bool.and_eq_true] at q k
  simp only[V.aS,wS,Bool.and_eq_true]
  exact⟨V.XG q.1 hk,ih q.2 k.2⟩
theorem XK: ∀ {ps:List (Nat×Nat×X)} {vs z l:List V},RS ps vs z=some l->(ps.map fun p=>s.ev p.2.2)=V.aS vs ->
  Dv (V.aS z) (ps.map fun p=>(p.1,p.2.1,s.ev p.2.2))=true/\Ec (V.aS z) (ps.map fun p=>(p.1,p.2.1,s.ev p.2.2))=V.aS l:=by
 intro ps
 induction ps with
 |nil =>
  intro vs z l q he
  cases vs with
  |nil=>cases q; exact⟨rfl,rfl⟩
  |cons v vs=>simp[V.aS] at he
 |cons p ps ih =>
  intro vs z l q he
  obtain⟨off,n,x⟩:=p
  cases vs with
  |nil=>simp[V.aS] at he
  |cons v vs =>
   simp only[RS] at q
   split at q
   ·rename_i c hc
    obtain⟨g,q⟩:=aQ q
    simp only[List.map_cons,V.aS,List.cons.injEq] at he
    simp only[Bool.and_eq_true] at g
    have e1:=eF g.1
    obtain⟨i1,i2⟩:=ih q he.2
    simp only[List.map_cons,Dv,Ec,Bool.and_eq_true]
    have ec:(s.ev x).cells=V.aS c:=by rw[he.1]; exact V.DU hc
    simp only[tZ,G7,G8] at i1 i2
    simp only[ec,dH]
    refine⟨⟨⟨by simpa using e1,g.2⟩,i1⟩,i2⟩
   ·cases q
theorem acp(R:Rp m s.fr)(hh:s.hp=h.aj){z:List T}{ps:List (Nat×Nat×X)}{r:V}{sd:Sd}(q:mkZ m h z ps=some (r,sd))(hs:sd.holds):Ok s (.mk z ps) r:=by
 unfold mkZ at q
 split at q
 ·rename_i vs s' hb
  split at q
  ·rename_i l hl
   obtain⟨g,q⟩:=aQ q
   cases q
   have he:=qU R hb hs
   have he':(ps.map fun p=>s.ev p.2.2)=V.aS vs:=by rw[<- he]; simp
   obtain⟨i1,i2⟩:=XK hl he'
   rw[xu] at i1 i2
   unfold Ok; simp only[qc,qt]
   rw[i1,i2,he',hh,DV g]
   exact⟨rfl,rfl⟩
  ·cases q
 ·cases q
theorem RY{k n:Nat}: ∀ {ps:List (Nat×X)} {vs z l:List V},XD n ps vs z=some l->(ps.map fun p=>s.ev p.2)=V.aS vs->CY k vs=true ->
  F8 k n (ps.map fun p=>(p.1,s.ev p.2))=true/\oK (V.aS z) (ps.map fun p=>(p.1,s.ev p.2))=V.aS l:=by
 intro ps
 induction ps with
 |nil =>
  intro vs z l q he _
  cases vs with
  |nil=>cases q; exact⟨rfl,rfl⟩
  |cons v vs=>simp[V.aS] at he
 |cons p ps ih =>
  intro vs z l q he hk
  obtain⟨i,x⟩:=p
  cases vs with
  |nil=>simp[V.aS] at he
  |cons v vs =>
   simp only[XD] at q
   obtain⟨g,q⟩:=aQ q
   simp only[List.map_cons,V.aS,List.cons.injEq] at he
   have hkv:=Fb hk v (by simp)
   simp only[CY,Bool.and_eq_true] at hk
   obtain⟨i1,i2⟩:=ih q he.2 hk.2
   have e:V.aS (z.set i v)=(V.aS z).set i (s.ev x):=by rw[he.1]; simp[bY,List.map_set]
   rw[e] at i2
   simp only[List.map_cons,F8,oK,Bool.and_eq_true]
   refine⟨⟨⟨?_,g⟩,i1⟩,i2⟩
   rw[he.1,V.Le hkv]; simp
theorem acr(R:Rp m s.fr)(hh:s.hp=h.aj){ty k:Nat}{z:T}{n:Nat}{ps:List (Nat×X)}{r:V}{sd:Sd}(q:msZ m h k z n ps=some (r,sd))(hs:sd.holds):Ok s (.ms ty k z n ps) r:=by
 unfold msZ at q
 split at q
 ·rename_i vs s' hb
  split at q
  ·rename_i l hl
   obtain⟨g,q⟩:=aQ q
   have hs':s'.holds/\r.aF= .sl k true (V.aS l):=by
    split at q
    ·rename_i w hw
     cases q; exact⟨hs,by simp only[V.aF]; rw[Rw.xu hw]⟩
    ·cases q; exact⟨hs,rfl⟩
   have he:=qU R hb hs'.1
   have he':(ps.map fun p=>s.ev p.2)=V.aS vs:=by rw[<- he]; simp
   simp only[Bool.and_eq_true] at g
   obtain⟨⟨⟨⟨⟨⟨g1,g2⟩,g3⟩,g4⟩,g5⟩,g6⟩,g7⟩:=g
   obtain⟨i1,i2⟩:=RY hl he' g3
   have e:V.aS (List.replicate n (uJ z))=List.replicate n z:=by rw[bY,List.map_replicate,uF]
   rw[e] at i2
   unfold Ok; simp only[qc,qt]
   rw[i1,i2,he',hh,DV g4,V.jB _ g5,g1,g2,g6,g7,hs'.2]
   exact⟨rfl,rfl⟩
  ·cases q
 ·cases q
theorem yK(R:Rp m s.fr){x:Option X}{v:Option V}{sd:Sd}(q:G6 m x=some (v,sd))(hs:sd.holds):x.map s.ev=v.map V.aF:=by
 cases x with
 |none=>cases q; rfl
 |some x =>
  simp only[G6] at q
  split at q
  ·rename_i u hu
   cases q
   simp only[Option.map_some]; rw[R.ev hu,dI (v:=u) (u:=u.bare.1) (s:=u.bare.2) rfl hs]
  ·cases q
theorem DW{k k':Nat}{r:Rw}(g:kOk k k' r=true):k'=k\/r.aS=[]:=by
 unfold kOk at g
 split at g
 ·exact .inr rfl
 ·exact .inl (eF g)
theorem Oy{k k':Nat}{f:Bool}{w:Rw}{lo hi mx:Option V}{r:V}{sd:Sd}(q:XE k k' f w lo hi mx=some (r,sd))(hs:sd.holds) :
  Yy k (.sl k' f w.aS) (lo.map V.aF) (hi.map V.aF) (mx.map V.aF)/\NP k (.sl k' f w.aS) (lo.map V.aF) (hi.map V.aF) (mx.map V.aF)=r.aF:=by
 unfold XE at q
 split at q
 ·obtain⟨g,q⟩:=aQ q; cases q
  simp only[Option.map_none,Yy,NP,V.aF]
  exact⟨DW g,trivial⟩
 ·obtain⟨g,q⟩:=aQ q; cases q
  simp only[Sd.holds,Rw.qR] at hs
  simp only[Option.map_none,Option.map_some,Yy,NP,V.aF,Rw.Ov,Rw.dF]
  exact⟨⟨DW g,hs⟩,trivial⟩
 ·obtain⟨g,q⟩:=aQ q; cases q
  simp only[Sd.holds,Rw.qR] at hs
  simp only[Option.map_none,Option.map_some,Yy,NP,V.aF,Rw.yJ,Rw.dF]
  exact⟨⟨DW g,hs⟩,trivial⟩
 ·obtain⟨g,q⟩:=aQ q; cases q
  simp only[Sd.holds,Rw.qR] at hs
  simp only[Option.map_none,Option.map_some,Yy,NP,V.aF,Rw.yJ,Rw.Ov,Rw.dF]
  exact⟨⟨DW g,hs.1,hs.2.1,hs.2.2.2⟩,trivial⟩
 ·obtain⟨g,q⟩:=aQ q; cases q
  simp only[Sd.holds,Rw.qR] at hs
  simp only[Option.map_none,Option.map_some,Yy,NP,V.aF,Rw.yJ,Rw.dF]
  exact⟨⟨DW g,hs.1,hs.2.1,hs.2.2.2⟩,trivial⟩
 ·cases q
theorem XL{k i ty ko:Nat}{w:Rw}{lo hi mx:Option V}{r:V}{sd:Sd}(q:XF k i ko w lo hi mx=some (r,sd))(hs:sd.holds) :
  BD k ⟨ty,ko,w.aS⟩ (lo.map V.aF) (hi.map V.aF) (mx.map V.aF)/\xH i ⟨ty,ko,w.aS⟩ (lo.map V.aF) (hi.map V.aF) (mx.map V.aF)=r.aF:=by
 unfold XF at q
 split at q
 ·obtain⟨g,q⟩:=aQ q; cases q
  simp only[Sd.holds,Rw.qR] at hs
  simp only[Option.map_none,Option.map_some,BD,xH,V.aF,Rw.dF]
  exact⟨⟨eF g,hs⟩,trivial⟩
 ·obtain⟨g,q⟩:=aQ q; cases q
  simp only[Sd.holds,Rw.qR] at hs
  simp only[Option.map_none,Option.map_some,BD,xH,V.aF,Rw.dF]
  exact⟨⟨eF g,hs⟩,trivial⟩
 ·obtain⟨g,q⟩:=aQ q; cases q
  simp only[Sd.holds,Rw.qR] at hs
  simp only[Option.map_none,Option.map_some,BD,xH,V.aF,Rw.dF]
  exact⟨⟨eF g,hs.1,hs.2.1,hs.2.2.2⟩,trivial⟩
 ·cases q
theorem UK{k i ty ko:Nat}{w:Rw}{xs:List V}{lo hi mx:Option V}{r:V}{sd:Sd}(q:Qx k i ko w xs lo hi mx=some (r,sd))(hs:sd.holds) :
  BD k ⟨ty,ko,w.aS++V.aS xs⟩ (lo.map V.aF) (hi.map V.aF) (mx.map V.aF)/\xH i ⟨ty,ko,w.aS++V.aS xs⟩ (lo.map V.aF) (hi.map V.aF) (mx.map V.aF)=r.aF:=by
 unfold Qx at q
 split at q
 ·obtain⟨g,q⟩:=aQ q; cases q
  simp only[Sd.holds,Rw.qR] at hs
  simp only[Option.map_none,Option.map_some,BD,xH,V.aF]
  refine⟨⟨eF g,hs.1,?_⟩,trivial⟩
  have:=hs.2
  simp only[List.length_append,Rw.dF]; omega
 ·split at q
  ·simp only[V.aS,List.append_nil]; exact XL q hs
  ·cases q
theorem RZ(R:Rp m s.fr){b:Bool}{k:Nat}{x:X}{lo hi mx:Option X}{r:V}{sd:Sd}(q:slX m h b k x lo hi mx=some (r,sd))(hs:sd.holds) :
  ∃ v lo' hi' mx' s',slZ h b k v lo' hi' mx'=some (r,s')/\s'.holds/\s.ev x=v.aF/\lo.map s.ev=lo'.map V.aF/\hi.map s.ev=hi'.map V.aF/\mx.map s.ev=mx'.map V.aF:=by
 obtain⟨v,s',q,hs,hv⟩:=jr R q hs
 split at q
 ·rename_i lo' s1 hi' s2 mx' s3 e1 e2 e3
  split at q
  ·rename_i u s4 e4
   cases q
   rw[Sd.jW,Sd.jW,Sd.jW] at hs
   exact⟨v,lo',hi',mx',s4,e4,hs.2.2.2,hv,yK R e1 hs.1,yK R e2 hs.2.1,yK R e3 hs.2.2.1⟩
  ·cases q
 ·cases q
theorem adL(R:Rp m s.fr){k:Nat}{x:X}{lo hi mx:Option X}{r:V}{sd:Sd}(q:slX m h false k x lo hi mx=some (r,sd))(hs:sd.holds):Ok s (.sl k x lo hi mx) r:=by
 obtain⟨v,lo',hi',mx',s',q,hs,hv,e1,e2,e3⟩:=RZ R q hs
 unfold Ok; simp only[qc,qt]; rw[hv,e1,e2,e3]
 unfold slZ at q
 split at q
 ·exact Oy q hs
 ·cases q
 ·cases q
theorem acs(R:Rp m s.fr)(hh:s.hp=h.aj){k:Nat}{x:X}{lo hi mx:Option X}{r:V}{sd:Sd}(q:slX m h true k x lo hi mx=some (r,sd))(hs:sd.holds):Ok s (.Ud k x lo hi mx) r:=by
 obtain⟨v,lo',hi',mx',s',q,hs,hv,e1,e2,e3⟩:=RZ R q hs
 unfold Ok; simp only[qc,qt]; rw[hv,e1,e2,e3]
 unfold slZ at q
 split at q
 ·exact Oy q hs
 ·simp only[cond_true] at q
  split at q
  ·rename_i i _ ty ko w xs e
   simp only[V.aF,hh,aO e,OV.ay]
   exact UK q hs
  ·cases q
 ·cases q
theorem Au{t:Str}{a b:Nat}(hab:a<=b)(_hb:b<=t.length):(bs t).extract a b=bs ((t.take b).drop a):=by
 apply ByteArray.ext
 have h1:((bs t).extract a b).data=(bs t).data.extract a b:=ByteArray.data_extract
 rw[h1]
 apply Array.ext'
 simp[bs,List.extract,List.take_drop]
 rw[show a+(b-a)=b by omega]
theorem adM(R:Rp m s.fr){x:X}{lo hi:Option X}{r:V}{sd:Sd}(q:ssX m x lo hi=some (r,sd))(hs:sd.holds):Ok s (.ss x lo hi) r:=by
 obtain⟨v,s',q,hs,hv⟩:=jr R q hs
 split at q
 ·rename_i t lo' s1 hi' s2 e1 e2
  split at q
  ·rename_i u s4 e4
   cases q
   rw[Sd.jW,Sd.jW] at hs
   have f1:=yK R e1 hs.1
   have f2:=yK R e2 hs.2.1
   unfold Ok; simp only[qc,qt]; rw[hv,f1,f2]
   have hs4:=hs.2.2
   unfold ssZ at e4
   split at e4
   ·cases e4
    simp only[Sd.holds] at hs4
    simp only[Option.map_none,Option.map_some,V.aF,eS,zh]
    refine⟨hs4,?_⟩
    rw[Au (by omega) (Nat.le_refl _)]; simp
   ·cases e4
    simp only[Sd.holds] at hs4
    simp only[Option.map_none,Option.map_some,V.aF,eS,zh]
    refine⟨hs4,?_⟩
    rw[Au (by omega) (by omega)]; simp
   ·cases e4
    simp only[Sd.holds] at hs4
    simp only[Option.map_some,V.aF,eS,zh]
    refine⟨hs4,?_⟩
    rw[Au (by omega) (by omega)]
   ·cases e4
  ·cases q
 ·cases q
theorem acu(R:Rp m s.fr)(hh:s.hp=h.aj){f:FuncId}{cap:List X}{r:V}{sd:Sd}(q:mfZ m h f cap=some (r,sd))(hs:sd.holds):Ok s (.mf f cap) r:=by
 unfold mfZ at q
 split at q
 ·rename_i l s' hb
  obtain⟨g,q⟩:=aQ q
  cases q
  simp only[Bool.and_eq_true] at g
  unfold Ok; simp only[qc,qt]
  rw[qU R hb hs,hh,UJ g.1.1 g.1.2,g.2]
  exact⟨rfl,rfl⟩
 ·cases q
theorem acv{f:FuncId}{x:X}{v r:V}{sd:Sd}(q:mbZ f v=some (r,sd))(h1:s.ev x=v.aF):Ok s (.mb f x) r:=by
 unfold mbZ at q
 split at q
 ·obtain⟨g,q⟩:=aQ q; cases q
  unfold Ok; simp only[qc,qt]; rw[h1]; exact⟨Nat.blt_eq.mp g,rfl⟩
 ·obtain⟨g,q⟩:=aQ q; cases q
  rename_i d
  unfold Ok; simp only[qc,qt]; rw[h1]; simp only[V.aF]; rw[Dat.DT]; exact⟨Nat.blt_eq.mp g,rfl⟩
 ·cases q
theorem XM(R:Rp m s.fr)(hh:s.hp=h.aj){op:lu}{r:V}{sd:Sd}(q:qz m h op=some (r,sd))(hs:sd.holds):bD op=true/\Ok s op r:=by
 unfold qz at q
 split at q
 ·split at q
  ·rename_i v e; cases q
   exact⟨rfl,trivial,R.ev e⟩
  ·cases q
 ·obtain⟨c,s',q,hs,hc⟩:=jr R q hs
  split at q
  ·rename_i t va vb e1 e2
   exact⟨rfl,XH R e1 e2 q hs hc⟩
  ·cases q
 ·obtain⟨u,v,s',q,hs,h1,h2⟩:=xw R q hs
  exact⟨rfl,ZQ q hs h1 h2⟩
 ·obtain⟨u,v,s',q,hs,h1,h2⟩:=xw R q hs
  split at q
  ·cases q; refine⟨rfl,?_⟩; unfold Ok; simp only[qc,qt]; rw[h1,h2]; exact⟨rfl,rfl⟩
  ·cases q
 ·obtain⟨u,s',q,hs,h1⟩:=jr R q hs
  split at q
  ·cases q; refine⟨rfl,?_⟩; unfold Ok; simp only[qc,qt]; rw[h1]; exact⟨rfl,rfl⟩
  ·cases q
 ·obtain⟨u,s',q,hs,h1⟩:=jr R q hs
  split at q
  ·cases q; refine⟨rfl,?_⟩; unfold Ok; simp only[qc,qt]; rw[h1]; simp only[V.aF,true_and]; rw[RU hs]
  ·cases q; refine⟨rfl,?_⟩; unfold Ok; simp only[qc,qt]; rw[h1]; simp only[V.aF,true_and]; rw[RU hs]
  ·cases q; refine⟨rfl,?_⟩; unfold Ok; simp only[qc,qt]; rw[h1]; simp only[V.aF,true_and]; rw[RU hs]
  ·cases q
 ·obtain⟨u,s',q,hs,h1⟩:=jr R q hs
  split at q
  ·cases q; refine⟨rfl,?_⟩; unfold Ok; simp only[qc,qt]; rw[h1]; simp only[V.aF,true_and]; rw[adK hs.1 hs.2]
  ·cases q; refine⟨rfl,?_⟩; unfold Ok; simp only[qc,qt]; rw[h1]; exact⟨trivial,rfl⟩
  ·cases q
 ·obtain⟨u,s',q,hs,h1⟩:=jr R q hs
  split at q
  ·cases q; refine⟨rfl,?_⟩; unfold Ok; simp only[qc,qt]; rw[h1]; simp only[V.aF,true_and]; rw[acd hs.1 hs.2]
  ·cases q
 ·obtain⟨u,s',q,hs,h1⟩:=jr R q hs; exact⟨rfl,ace hh q h1⟩
 ·obtain⟨u,s',q,hs,h1⟩:=jr R q hs; exact⟨rfl,acf q h1⟩
 ·obtain⟨u,v,s',q,hs,h1,h2⟩:=xw R q hs; exact⟨rfl,XJ hh q hs h1 h2⟩
 ·obtain⟨u,v,s',q,hs,h1,h2⟩:=xw R q hs; exact⟨rfl,acg q hs h1 h2⟩
 ·obtain⟨u,s',q,hs,h1⟩:=jr R q hs; exact⟨rfl,QB hh q hs h1⟩
 ·obtain⟨u,s',q,hs,h1⟩:=jr R q hs; exact⟨rfl,ach hh q h1⟩
 ·obtain⟨u,s',q,hs,h1⟩:=jr R q hs; exact⟨rfl,RX hh q h1⟩
 ·obtain⟨u,v,s',q,hs,h1,h2⟩:=xw R q hs; exact⟨rfl,aci q h1 h2⟩
 ·obtain⟨u,v,s',q,hs,h1,h2⟩:=xw R q hs; exact⟨rfl,acj q h1 h2⟩
 ·exact⟨rfl,acp R hh q hs⟩
 ·exact⟨rfl,acr R hh q hs⟩
 ·exact⟨rfl,adL R q hs⟩
 ·exact⟨rfl,acs R hh q hs⟩
 ·exact⟨rfl,adM R q hs⟩
 ·obtain⟨u,s',q,hs,h1⟩:=jr R q hs; exact⟨rfl,acn q h1⟩
 ·exact⟨rfl,acu R hh q hs⟩
 ·obtain⟨u,v,s',q,hs,h1,h2⟩:=xw R q hs; exact⟨rfl,ZT q h1 h2⟩
 ·obtain⟨u,s',q,hs,h1⟩:=jr R q hs; exact⟨rfl,ZU q h1⟩
 ·obtain⟨u,s',q,hs,h1⟩:=jr R q hs; exact⟨rfl,acv q h1⟩
 ·obtain⟨u,s',q,hs,h1⟩:=jr R q hs; exact⟨rfl,aco q h1⟩
 ·cases q
end
structure ah(P:Program)(dr:Bool)(g:Option Bool)(f:FuncId)(args:List V)(h:Hz)(n:Nat)(K:V->Hz->Prop)(KW:Nat->V->Hz->Prop):Prop where
 ok:(match g with
  |none=>aT P f (V.aS args) h.aj n fun t hp=> ∃ v h',t=v.aF/\hp=h'.aj/\(dr=true->h'=h/\t.free=true)/\K v h'
  |some b=>(∃ v,(b=true->aT P f (V.aS args) h.aj n fun t hp=>t=v.aF/\hp=h.aj)/\v.free=true/\K v h) \/
   (dr=false/\(b=true->aT P f (V.aS args) h.aj n fun t hp=> ∃ v h',t=v.aF/\hp=h'.aj/\K v h')/\(b=false->K (.int 0) h))) \/
  (g=none/\dr=false/\ ∃ k,wW P f (V.aS args) h.aj n k fun t hp=> ∃ v h',t=v.aF/\hp=h'.aj/\KW k v h') \/
  (g=none/\dr=true/\h.get n=none/\aT P f (V.aS args) h.aj n fun t hp=> ∃ v o,t=v.aF/\hp=Hz.aj ((n,some o)::h)/\KW 0 v ((n,some o)::h))
structure Fz(P:Program)(f:FuncId)(args:List V)(h:Hz)(n:Nat)(K:V->Hz->Prop):Prop where
 ok: ∃ (v:V) (o:Option OV),v.aF.ids (fun i=>i=n)/\(∀ ob,o=some ob->T.cZ ob.ay.l=true) /\
  (∀ hp:Hp,(∀ i ob,h.aj i=some ob->hp i=some ob)->aT P f (V.aS args) hp n fun t' h'=>t'=v.aF/\h'=gG hp n (o.map OV.ay)) /\
  K v (match o with|none=>h|some o=>(n,some o)::h)
def Aw(dr fl:Bool)(a b c:Prop):Prop :=
 match dr with
 |false=>a
 |true=>match fl with
  |false=>b
  |true=>c
inductive VF(p a b:Prop):Prop where
 |mk:(p->a)->b->VF p a b
inductive adN(o:Option (List Bool))(yes:List Bool->Prop)(no:Prop):Prop where
 |mk:(∀ l,o=some l->yes l)->(o=none->no)->adN o yes no
def V.seq(v:V)(K:V->Prop):Prop :=
 match v with
 | .int n=>K (.int n)
 | .bool b=>K (.bool b)
 | .u8 n=>K (.u8 n)
 | .str s=>K (.str s)
 | .dat d=>K (.dat d)
 | .agg l=>K (.agg l)
 | .row k f r=>K (.row k f r)
 | .EG k f l=>K (.EG k f l)
 | .ref k v=>K (.ref k v)
 | .own i=>K (.own i)
 | .inn i=>K (.inn i)
 | .pin i j o=>K (.pin i j o)
 | .ptr i j o=>K (.ptr i j o)
 | .nO i a b=>K (.nO i a b)
 | .fn f l=>K (.fn f l)
 | .fU l=>K (.fU l)
 | .cnd b v=>K (.cnd b v)
 | .raw t=>K (.raw t)
theorem V.seq_eq(v:V)(K:V->Prop):v.seq K=K v:=by cases v<;>rfl
def gy(d:Option Nat)(v:V)(m:Fm):Fm :=
 match d with
 |some d=>(d,v)::m
 |none=>m
def oV:Option Bool->V->V
 |none,v=>v
 |some b,.cnd c v=>.cnd (b&&c) v
 |some b,v=>.cnd b v
theorem DX(v:V):(oV (some true) v).aF=v.aF:=by cases v<;>rfl
theorem QC(v:V):(oV (some false) v).aF=T.un:=by cases v<;>rfl
def QD(m:Fm):Option (Nat×Bool)->Option (Option Bool)
 |none=>some none
 |some (g,w)=>match m.get g with
  |some (.bool b)=>some (some (bif w then b else !b))
  |some (.cnd c (.bool b))=>some (some (c&&(bif w then b else !b)))
  |_=>none
def ltX(nx:Nat)(m:Fm):List X->Bool
 |[]=>true
 |x::r=>(match xO m x with|some v=>T.lt nx v.aF|none=>false)&&ltX nx m r
def XO(nx:Nat)(m:Fm):lu->Bool
 | .st _ x _=>match xO m x with|some v=>T.newer nx v.aF|none=>false
 | .app _ _ _ x _=>match xO m x with|some v=>T.newer nx v.aF|none=>false
 | .O5 _ _ _=>false
 | .PY _ _ _=>false
 | .call _ _=>true
 | .jY _ _=>true
 |op=>ltX nx m op.xs
def ZV(i:Nat)(m:Fm):List X->Bool
 |[]=>true
 |x::r=>(match xO m x with|some v=>T.nid i v.aF|none=>false)&&ZV i m r
def neB(m:Fm)(xs:List X):List Nat->Bool
 |[]=>true
 |d::r=>(match m.get d with|some (.ptr i _ _)=>ZV i m xs|_=>false)&&neB m xs r
def Es(nx:Nat)(o:aI)(m:Fm):Bool:=(!o.fl||XO nx m o.op)&&neB m o.op.xs o.ne
def isZero:V->Bool
 | .int (.ofNat 0)=>true
 |_=>false
def MN(n:Nat):T->Option Rw
 | .lit (.int .i64 z)=>some (.ints (List.replicate n z))
 | .lit (.bool z)=>some (.bools (List.replicate n z))
 | .lit (.string z)=>some (.strs (List.replicate n z.data.toList))
 |_=>none
def Rw.set(j:Nat)(v:V)(r:Rw):Option Rw :=
 match r,v with
 | .ints l,.int n=>some (.ints (l.set j n))
 | .bools l,.bool n=>some (.bools (l.set j n))
 | .strs l,.str n=>some (.strs (l.set j n))
 | .rules l,.dat (.rule n)=>some (.rules (l.set j n))
 | .clauses l,.dat (.clause n)=>some (.clauses (l.set j n))
 | .elems l,.dat (.elem n)=>some (.elems (l.set j n))
 | .iR l,.row 0 false (.ints n)=>some (.iR (l.set j n))
 | .gu l,.row 0 false (.bools n)=>some (.gu (l.set j n))
 | .jw l,.row 0 false (.iR n)=>some (.jw (l.set j n))
 |_,_=>none
def acw(h:Hz)(k:Nat):V->Option (Rw×List V)
 | .row k' _ r=>dB (kOk k k' r) (some (r,[]))
 | .EG k' _ l=>dB (Nat.beq k' k) (some (.nil,l))
 | .own o=>match h.get o with
  |some (.row _ ko r x)=>dB (Nat.beq ko k) (some (r,x))
  |_=>none
 |_=>none
def acy(r:Rw)(x:List V)(r':Rw)(x':List V):Option (Rw×List V) :=
 match x,r' with
 |[],r'=>match r.app r' with|some w=>some (w,x')|none=>none
 |x,.nil=>some (r,x++x')
 |_,_=>none
def qF(r:Rw)(x:List V):Nat :=
 match x with
 |[]=>r.len
 |x=>r.len+x.length
def o8(bytes:Nat)(a b:Nat):Prop:=(a+b)*bytes<=140737488355328/\a+b<=1152921504606846976
def setCells(v:V)(off:Nat)(u:V):Option V :=
 match v.cells,u.cells with
 |some l,some c=>some (.agg (l.take off++c++l.drop (off+c.length)))
 |_,_=>none
def Lh:List V->(List V->Prop)->Prop
 |[],K=>K []
 |v::r,K=>Lh r fun r'=>K (v::r')
def V.force(v:V)(K:V->Prop):Prop :=
 match v with
 | .agg l=>Lh l fun l=>K (.agg l)
 |v=>K v
theorem UL: ∀ {l:List V} {K:List V->Prop},Lh l K=K l:=by
 intro l
 induction l with
 |nil=>intro K; rfl
 |cons v r ih=>intro K; show Lh r (fun r'=>K (v::r'))=_; rw[ih]
theorem V.force_eq(v:V)(K:V->Prop):v.force K=K v:=by
 cases v<;>first|rfl|exact UL
structure YK(c p a b:Prop):Prop where
 ok:(c\/b)/\p/\a
theorem YK.one{c p a b:Prop}(h:c/\p)(k:a):YK c p a b:=⟨.inl h.1,h.2,k⟩
structure AtZ(y:List V)(j:Nat)(K:V->Prop):Prop where
 ok: ∃ v,y[j]? =some v/\K v
structure O4(h:Hz)(i:Nat)(K:Nat->Rw->Prop):Prop where
 ok: ∃ ty k r,h.get i=some (.row ty k r [])/\K k r
structure Kq(h:Hz)(i j k:Nat)(v:V)(K:Hz->Prop):Prop where
 ok: ∃ ty r r' h',h.get i=some (.row ty k r [])/\r.set j v=some r'/\r.rng j/\h'.aj=upd h.aj i (some (OV.row ty k r' []).ay)/\K h'
structure adO(h:Hz)(i ty k:Nat)(K:Rw->Hz->Prop):Prop where
 ok: ∃ r h',h.get i=some (.row ty k r [])/\h'.aj=upd h.aj i none/\K r h'
def ZW(dr:Bool)(d:Option Nat)(n:Nat)(m:Fm)(h:Hz)(K:Fm->Hz->Prop):lu->Prop
 | .box ty k x=>match xO m x with
  |some v=>match v.bare with
   |(v,s)=>bif CY k [v]&&v.jv h&&vH k then s.vc none (K (gy d (.ptr n 0 0) m) ((n,some (.box ty k v))::h)) else False
  |none=>False
 | .al ty k z=>bif z.kd==k&&z.jv h.aj&&z.free&&vH k then K (gy d (.ptr n 0 0) m) ((n,some (.box ty k (uJ z)))::h) else False
 | .make ty k bytes z x y=>match xO m x,xO m y with
  |some (.int a),some (.int b)=>bif z.kd==k&&z.jv h.aj&&z.free&&vH k then
    (match (bif isZero (.int a) then some .nil else MN a.toNat z) with
    |some r=>VC (0<=a/\a<=b/\b*bytes<=140737488355328/\b<=1152921504606846976) (K (gy d (.own n) m) ((n,some (.row ty k r []))::h))
    |none=>VC (0<=a/\a<=b/\b*bytes<=140737488355328/\b<=1152921504606846976) (K (gy d (.own n) m) ((n,some (.gen ty k (List.replicate a.toNat (uJ z))))::h))) else False
  |_,_=>False
 | .st k x v=>match xO m x,xO m v with
  |some (.ptr i j off),some v=>match v.bare with
   |(v,s)=>bif CY k [v]&&v.jv h then
    (match h.get i with
    |some (.box ty ko w)=>bif Nat.beq j 0 then
      (bif Nat.beq off 0&&Nat.beq ko k then s.vc none (K m ((i,some (.box ty ko v))::h))
      else bif !(Nat.beq ko 0)&&lJ (aY ko) off k then(match setCells w off v with
       |some w'=>w'.force fun w'=>s.vc none (K m ((i,some (.box ty ko w'))::h))
       |none=>False) else False) else False
    |some (.row ty ko r [])=>bif Nat.beq off 0&&Nat.beq ko k then(match r.set j v with
      |some r'=>s.vc none (VC (r.rng j) (K m ((i,some (.row ty ko r' []))::h)))
      |none=>s.vc none (VC (r.rng j) (K m ((i,some (.gen ty ko (r.vs.set j v)))::h)))) else False
    |some (.gen ty ko y)=>bif Nat.beq off 0&&Nat.beq ko k then s.vc none (VC (j<y.length) (K m ((i,some (.gen ty ko (y.set j v)))::h))) else False
    |_=>False) else False
  |some x,some v=>(match x.bare with
   |(.pin i j off,s0)=>match v.bare with
    |(v,s)=>bif CY k [v]&&v.jv h&&Nat.beq off 0 then(s0.and s).vc none (Kq h i j k v fun h'=>K m h') else False
   |_=>False)
  |_,_=>False
 | .ld k x=>match xO m x with
  |some v=>(match v.bare with
   |(.ptr i j off,s)=>(match h.get i with
    |some (.gen _ ko y)=>bif Nat.beq off 0&&Nat.beq ko k then s.vc none (AtZ y j fun v=>v.seq fun v=>K (gy d v m) h) else False
    |_=>False)
   |(.pin i j off,s)=>s.vc none (O4 h i fun ko r=>match ldR k j off ko r with
    |some (v,s')=>s'.vc none (v.seq fun v=>K (gy d v m) h)
    |none=>False)
   |_=>False)
  |none=>False
 | .ia k x i=>match xO m x,xO m i with
  |some v,some w=>(match v.bare,w.bare with
   |(.inn o,s),(.int n,s')=>(s.and s').vc none (O4 h o fun ko r=>bif Nat.beq ko k then VC (r.rng n) (K (gy d (.pin o n.toNat 0) m) h) else False)
   |_,_=>False)
  |_,_=>False
 | .len str x=>match xO m x with
  |some v=>(match v.bare with
   |(.inn o,s)=>s.vc none (O4 h o fun ko r=>bif !str&& !(Nat.beq ko eP) then r.lenV.seq fun v=>K (gy d v m) h else False)
   |_=>False)
  |none=>False
 | .app ty k bytes x y=>match xO m x,xO m y with
  |some x,some y=>match acw h k y with
   |some (r',x')=>(match x with
    | .row _ true .nil=>VC (o8 bytes 0 (qF r' x')) (K (gy d (.own n) m) ((n,some (.row ty k r' x'))::h))
    | .row k' true r=>bif Nat.beq k' k then(match r.app r' with
     |some w=>YK (r.len=0\/0<qF r' x') (o8 bytes r.len (qF r' x')) (K (gy d (.own n) m) ((n,some (.row ty k w x'))::h)) (dr=false/\K (gy d (.row k' true r) m) h)
     |none=>False) else False
    | .own i=>(match h.get i with
     |some (.row ty' ko r x)=>bif Nat.beq ko k&&Nat.beq ty' ty then(match acy r x r' x' with
      |some (w,z)=>VC (o8 bytes (qF r x) (qF r' x')) (K (gy d (.own n) m) ((n,some (.row ty k w z))::(i,none)::h))
      |none=>False) else False
     |some (.gen ty' ko y)=>bif Nat.beq ko k&&Nat.beq ty' ty then VC (o8 bytes y.length (qF r' x')) (K (gy d (.own n) m) ((n,some (.gen ty k (y++(r'.vs++x'))))::(i,none)::h)) else False
     |_=>False)
    | .inn i=>adO h i ty k fun r h'=>match r.app r' with
     |some w=>VC (o8 bytes r.len (qF r' x')) (K (gy d (.own n) m) ((n,some (.row ty k w x'))::h'))
     |none=>False
    |_=>False)
   |none=>False
  |_,_=>False
 | .PY k z x=>match xO m x with
  |some (.nO i lo hi)=>match h.get i with
   |some (.row ty ko r [])=>bif Nat.beq ko k&&z.kd==k&&z.jv h.aj&&z.free then
     VC (lo<=hi/\hi=r.len) (match d with
      |none=>K m ((i,some (.row ty ko (r.take lo) (List.replicate (hi-lo) (uJ z))))::h)
      |some _=>K (gy d (.raw T.un) m) ((i,some (.row ty ko (r.take lo) (List.replicate (hi-lo) (uJ z))))::h)) else False
   |_=>False
  |_=>False
 | .H7 ty k z nn ps=>match yI m (ps.map fun p=>p.2) with
  |some (vs,s)=>match XD nn ps vs (List.replicate nn (uJ z)) with
   |some l=>bif (z.kd==k)&&z.free&&CY k vs&&zN h vs&&Nat.ble (nn*aY k) 16777216&&vH k then s.vc none (K (gy d (.own n) m) ((n,some (.row ty k .nil l))::h)) else False
   |none=>False
  |none=>False
 | .yj x=>match xO m x with
  |some (.row _ _ r)=>VF (r.len=0) (K (gy d (.bool true) m) h) (K (gy d (.bool false) m) h)
  |some (.own i)=>match h.get i with
   |some (.row _ ko r [])=>bif Nat.beq ko eP then False else VF (r.len=0) (K (gy d (.bool true) m) h) (K (gy d (.bool false) m) h)
   |_=>False
  |_=>False
 | .Vr ty=>K (gy d (.own n) m) ((n,some (.map ty [] []))::h)
 | .mlk z x i=>match xO m x,xO m i with
  |some (.own o),some (.int k)=>match h.get o with
   |some (.map _ es [])=>adN (Eo k es) (fun l=>K (gy d (.fU [.row 0 false (.bools l),.bool true]) m) h) (K (gy d (.fU [uJ z,.bool false]) m) h)
   |_=>False
  |_,_=>False
 | .O5 x i v=>match xO m x,xO m i,xO m v with
  |some (.own o),some (.int k),some v=>match v.bare with
   |(v,s)=>match h.get o with
    |some (.map ty es [])=>bif CY 0 [v]&&v.jv h then s.vc none (VC (Eo k es=none) (K m ((o,some (.map ty es [(k,v)]))::h))) else False
    |_=>False
  |_,_,_=>False
 |_=>False
def phZ:lu->V
 | .not _=>.bool false
 |_=>.int 0
def acz(P:Program)(dr:Bool)(nx n:Nat)(o:aI)(KK:Nat->Fm->Hz->Prop)(m:Fm)(h:Hz):Prop :=
 match QD m o.g with
 |none=>False
 |some g=>bif Es nx o m then
   (match o.op with
   | .call f xs=>(match yI m xs with
    |some (l,s)=>s.vc g (match g with
     |none=>Aw dr o.fl (ah P false none f l h n (fun v h'=>v.seq fun v=>KK 0 (gy o.d v m) h') (fun k v h'=>v.seq fun v=>KK k (gy o.d v m) h')) (ah P true none f l h n (fun v h'=>v.seq fun v=>KK 0 (gy o.d v m) h') (fun _ _ _=>False)) (ah P false none f l h n (fun v h'=>v.seq fun v=>KK 0 (gy o.d v m) h') (fun _ _ _=>False))
     |some b=>Aw dr o.fl (ah P false (some b) f l h n (fun v h'=>v.seq fun v=>KK 0 (gy o.d (oV (some b) v) m) h') (fun _ _ _=>False)) (ah P true (some b) f l h n (fun v h'=>v.seq fun v=>KK 0 (gy o.d (oV (some b) v) m) h') (fun _ _ _=>False)) (ah P false (some b) f l h n (fun v h'=>v.seq fun v=>KK 0 (gy o.d (oV (some b) v) m) h') (fun _ _ _=>False)))
    |none=>False)
   | .jY x xs=>(match xO m x,yI m xs with
    |some v,some (l,s)=>(match v.bare with
     |(.fn f cap,s0)=>(s0.and s).vc g (bif Nat.blt f 4096 then Aw dr o.fl (ah P false g f (l++cap) h n (fun v h'=>v.seq fun v=>KK 0 (gy o.d (oV g v) m) h') (fun _ _ _=>False)) (ah P true g f (l++cap) h n (fun v h'=>v.seq fun v=>KK 0 (gy o.d (oV g v) m) h') (fun _ _ _=>False)) (ah P false g f (l++cap) h n (fun v h'=>v.seq fun v=>KK 0 (gy o.d (oV g v) m) h') (fun _ _ _=>False)) else Aw dr o.fl (ah P false g (f % 4096) (.agg cap::l) h n (fun v h'=>v.seq fun v=>KK 0 (gy o.d (oV g v) m) h') (fun _ _ _=>False)) (ah P true g (f % 4096) (.agg cap::l) h n (fun v h'=>v.seq fun v=>KK 0 (gy o.d (oV g v) m) h') (fun _ _ _=>False)) (ah P false g (f % 4096) (.agg cap::l) h n (fun v h'=>v.seq fun v=>KK 0 (gy o.d (oV g v) m) h') (fun _ _ _=>False)))
     |_=>False)
    |_,_=>False)
   |op=>(match qz m h op with
    |some (v,s)=>s.vc g (v.seq fun v=>KK 0 (gy o.d (oV g v) m) h)
    |none=>(match g with
     |none=>ZW dr o.d n m h (KK 0) op
     |some b=>Fork b (ZW dr o.d n m h (KK 0) op) (KK 0 (gy o.d (.cnd false (phZ op)) m) h))))
   else False
def adZ(P:Program)(nx n:Nat)(o:aI)(KK:Nat->Fm->Hz->Prop)(m:Fm)(h:Hz):Prop :=
 match o.op,o.g with
 | .call f xs,none=>bif o.fl&&Es nx o m then
   (match yI m xs with
   |some (l,s)=>s.vc none (ah P true none f l h n (fun v h'=>v.seq fun v=>KK 0 (gy o.d v m) h') (fun _ v h'=>v.seq fun v=>KK 0 (gy o.d v m) h'))
   |none=>False)
   else False
 |_,_=>False
def arZ(P:Program)(nx n:Nat)(o:aI)(KK:Nat->Fm->Hz->Prop)(m:Fm)(h:Hz):Prop :=
 match o.op,o.g with
 | .call f xs,none=>bif o.fl&&Es nx o m then
   (match yI m xs with
   |some (l,s)=>s.vc none (Fz P f l h n (fun v h'=>v.seq fun v=>KK 0 (gy o.d v m) h'))
   |none=>False)
   else False
 |_,_=>False
def opZ(P:Program)(dr:Bool)(nx n:Nat)(o:aI)(KK:Nat->Fm->Hz->Prop)(m:Fm)(h:Hz):Prop :=
 match o.ar with
 |true=>arZ P nx n o KK m h
 |false=>match o.ad with
 |true=>adZ P nx n o KK m h
 |false=>acz P dr nx n o KK m h
def Oz(P:Program)(dr:Bool)(ml:Nat)(nx:Nat)(K:Fm->Hz->Nat->Prop):List aI->Nat->Fm->Hz->Prop
 |[],_,m,h=>K m h (nx+ml)
 |o::r,i,m,h=>opZ P dr nx (nx+i) o (fun k=>Oz P dr ml (nx+k) K r (i+1)) m h
abbrev Qz:=oL->Fm->Hz->Nat->Prop
def Lift(N pn:Nat)(Q:Qz)(e:oL)(s:AS):Prop:= ∃ m h,s.fr.length=N/\Rp m s.fr/\s.hp=h.aj/\s.pin=pn/\Q e m h s.nx
structure aP(P:Program)(N pn:Nat)(b:fF)(Q:Qz)(m:Fm)(h:Hz)(nx:Nat):Prop where
 ok: ∀ fr,fr.length=N->Rp m fr->vP (aw P b) (Lift N pn Q) ⟨fr,h.aj,nx,pn⟩
def az(P:Program)(N pn:Nat):fF->Qz->Fm->Hz->Nat->Prop
 | .skip,Q,m,h,nx=>Q .normal m h nx
 | .reg dr ops,Q,m,h,nx=>Oz P dr ops.length nx (fun m h nx=>Q .normal m h nx) ops 0 m h
 | .seq a b,Q,m,h,nx=>az P N pn a (fun e m h nx=>match e with| .normal=>az P N pn b Q m h nx|e=>Q e m h nx) m h nx
 | .cond c a b,Q,m,h,nx =>
  match xO m c with
  |some (.bool t)=>Fork t (az P N pn a Q m h nx) (az P N pn b Q m h nx)
  |_=>False
 | .blk id b,Q,m,h,nx=>az P N pn b (fun e m h nx=>match e with| .exit j=>(bif Nat.beq j id then Q .normal m h nx else Q (.exit j) m h nx)|e=>Q e m h nx) m h nx
 | .exit id,Q,m,h,nx=>Q (.exit id) m h nx
 | .ret,Q,m,h,nx=>Q .ret m h nx
 | .loop b,Q,m,h,nx=>aP P N pn b Q m h nx
def Lj(N:Nat):List aI->Bool
 |[]=>true
 |o::r=>(match o.d with|some d=>Nat.blt d N|none=>true)&&Lj N r
def oP(N:Nat):fF->Bool
 | .skip=>true
 | .reg _ ops=>Lj N ops
 | .seq a b=>oP N a&&oP N b
 | .cond _ a b=>oP N a&&oP N b
 | .blk _ b=>oP N b
 | .exit _=>true
 | .ret=>true
 | .loop b=>oP N b
section
variable {P:Program} {m:Fm} {h:Hz}
theorem bn{i:Nat}{o:Option OV}:Hz.aj ((i,o)::h)=upd h.aj i (o.map OV.ay):=by
 funext j
 simp only[Hz.aj,Hz.get,upd]
 by_cases e:j=i
 ·subst e; simp
 ·have:Nat.beq i j=false:=by
   cases hb:Nat.beq i j with
   |false=>rfl
   |true=>exact absurd (eF hb).symm e
  simp[this,e]
theorem Rp.put{fr:List T}(R:Rp m fr){d:Option Nat}{v:V}(hd: ∀ i,d=some i->i<fr.length){s:AS}(hs:s.fr=fr):Rp (gy d v m) (s.put d v.aF).fr:=by
 subst hs
 cases d with
 |none=>exact R
 |some d =>
  intro i u hu
  simp only[gy,Fm.get] at hu
  show(s.fr.set d v.aF)[i]? =_
  cases hb:Nat.beq d i with
  |true =>
   rw[hb] at hu; simp at hu; subst hu
   have:=eF hb; subst this
   rw[List.getElem?_set_self (hd d rfl)]
  |false =>
   rw[hb] at hu
   have hne:d≠i:=Nat.ne_of_beq_eq_false hb
   rw[List.getElem?_set_ne hne]
   exact R i u hu
theorem Si{s:AS}{d:Option Nat}{t:T}:(s.put d t).fr.length=s.fr.length:=by cases d<;>simp[AS.put]
theorem jy{g:Option Bool}{k:Prop}{s:Sd}(q:s.vc g k):((g=none\/g=some true)->s.holds)/\k:=by
 unfold Sd.vc at q
 split at q
 ·exact⟨fun _=>trivial,q⟩
 ·split at q
  ·obtain⟨a,b⟩:=q; exact⟨fun _=>a,b⟩
  ·obtain⟨a,b⟩:=q; exact⟨fun hg=>a (by rcases hg with e|e<;>cases e; rfl),b⟩
theorem UM{s:AS}(R:Rp m s.fr){g:Option (Nat×Bool)}{g':Option Bool}(q:QD m g=some g'):(gv g s=some true/\(g'=none\/g'=some true))\/(gv g s=some false/\g'=some false):=by
 unfold QD at q
 split at q
 ·cases q; exact .inl ⟨rfl,.inl rfl⟩
 ·rename_i d w
  split at q
  ·rename_i b e
   cases q
   have hg:s.fr.getD d .any= .lit (.bool b):=R.getD e
   simp only[gv,hg]
   cases w<;>cases b<;>simp
  ·rename_i c b e
   cases q
   have hg:s.fr.getD d .any=bif c then .lit (.bool b) else T.un:=R.getD e
   cases c with
   |true=>simp only[gv,hg,cond_true]; cases w<;>cases b<;>simp
   |false=>simp only[gv,hg,cond_false]; simp
  ·cases q
theorem ZX{s:AS}(R:Rp m s.fr){nx:Nat}: ∀ {xs:List X},ltX nx m xs=true->(xs.all fun x=>T.lt nx (s.ev x))=true:=by
 intro xs
 induction xs with
 |nil=>intro _; rfl
 |cons x r ih =>
  intro q
  simp only[ltX,Bool.and_eq_true] at q
  simp only[List.all_cons,Bool.and_eq_true]
  refine⟨?_,ih q.2⟩
  have:=q.1
  split at this
  ·rename_i v e; rw[R.ev e]; exact this
  ·cases this
theorem XP{s:AS}(R:Rp m s.fr){i:Nat}: ∀ {xs:List X},ZV i m xs=true->(xs.all fun x=>T.nid i (s.ev x))=true:=by
 intro xs
 induction xs with
 |nil=>intro _; rfl
 |cons x r ih =>
  intro q
  simp only[ZV,Bool.and_eq_true] at q
  simp only[List.all_cons,Bool.and_eq_true]
  refine⟨?_,ih q.2⟩
  have:=q.1
  split at this
  ·rename_i v e; rw[R.ev e]; exact this
  ·cases this
theorem acA{s:AS}(R:Rp m s.fr){xs:List X}: ∀ {l:List Nat},neB m xs l=true->Ky s xs l=true:=by
 intro l
 induction l with
 |nil=>intro _; rfl
 |cons d r ih =>
  intro q
  simp only[neB,Bool.and_eq_true] at q
  simp only[Ky,Bool.and_eq_true]
  refine⟨?_,ih q.2⟩
  have:=q.1
  split at this
  ·rename_i i j o e
   have hg:s.fr.getD d .any= .ptr i j o:=R.getD e
   simp only[AS.obj,hg]
   exact XP R this
  ·cases this
theorem G9{s:AS}(R:Rp m s.fr){o:aI}(q:Es s.nx o m=true):iH o s:=by
 unfold Es at q
 simp only[Bool.and_eq_true,Bool.or_eq_true,Bool.not_eq_true'] at q
 refine⟨fun hf=>?_,acA R q.2⟩
 have h1:XO s.nx m o.op=true:=by
  rcases q.1 with h|h
  ·rw[hf] at h; cases h
  ·exact h
 unfold XO at h1
 split at h1
 ·rename_i k x v e
  rw[e]
  split at h1
  ·rename_i u hu; simp only; rw[R.ev hu]; exact h1
  ·cases h1
 ·rename_i e
  rw[e]
  split at h1
  ·rename_i u hu; simp only; rw[R.ev hu]; exact h1
  ·cases h1
 ·cases h1
 ·cases h1
 ·rename_i e; rw[e]
 ·rename_i e; rw[e]
 ·rename_i op h2 h3 h4 h5 h6 h7
  have:=ZX R h1
  split
  ·rename_i e; exact absurd e (h2 _ _ _)
  ·rename_i e; exact absurd e (h3 _ _ _ _ _)
  ·rename_i e; exact absurd e (h4 _ _ _)
  ·rename_i e; exact absurd e (h5 _ _ _)
  ·rfl
  ·rfl
  ·exact this
def Kz(N pn nx:Nat)(K:Fm->Hz->Prop)(s:AS):Prop:= ∃ m h,s.fr.length=N/\Rp m s.fr/\s.hp=h.aj/\s.pin=pn/\s.nx=nx/\K m h
theorem Ll{k:Nat}{v:V}(q:CY k [v]=true):v.aF.kd=k:=V.Le (Fb q v (by simp))
theorem ZY{n:Nat}{z:T}{r:Rw}(q:MN n z=some r):r.aS=List.replicate n z:=by
 unfold MN at q
 split at q<;>cases q
 ·simp[Rw.aS]
 ·simp[Rw.aS]
 ·simp only[Rw.aS,List.map_replicate]; rw[aaZ]
theorem Rw.Sj{j:Nat}{v:V}{r w:Rw}(q:r.set j v=some w):w.aS=r.aS.set j v.aF:=by
 unfold Rw.set at q
 split at q<;>first|(cases q; done)|(cases q; simp[Rw.aS,V.aF,Dat.aF,List.map_set])
theorem Z4{k:Nat}{y:V}{r:Rw}{x:List V}(q:acw h k y=some (r,x)):P5 h.aj k y.aF= .list (r.aS++V.aS x):=by
 unfold acw at q
 split at q
 ·rename_i k' f w
  obtain⟨g,q⟩:=aQ q; cases q
  simp only[V.aF,P5,V.aS,List.append_nil]
  rcases DW g with rfl|e
  ·cases r.aS<;>simp
  ·rw[e]
 ·rename_i k' f l
  obtain⟨g,q⟩:=aQ q; cases q
  have:=eF g; subst this
  simp only[V.aF,P5,Rw.aS,List.nil_append]
  cases hx:V.aS x<;>simp
 ·split at q
  ·rename_i o _ ty ko w z e
   obtain⟨g,q⟩:=aQ q; cases q
   have:=eF g; subst this
   simp[V.aF,P5,aO e,OV.ay]
  ·cases q
 ·cases q
theorem wB{r:Rw}{x:List V}:qF r x=(r.aS++V.aS x).length:=by
 unfold qF
 split
 ·simp[V.aS,Rw.dF]
 ·simp[dH,Rw.dF]
theorem Z5{r r' w:Rw}{x x' z:List V}(q:acy r x r' x'=some (w,z)):w.aS++V.aS z=(r.aS++V.aS x)++(r'.aS++V.aS x'):=by
 unfold acy at q
 split at q
 ·split at q
  ·rename_i w' e; cases q; rw[Rw.Fa e]; simp[V.aS]
  ·cases q
 ·cases q; simp[tZ,Rw.aS]
 ·cases q
theorem acB{k:Int}: ∀ {es:List (Int×List Bool)},uo k (es.map La)=(Eo k es).map fun l=>.sl 0 false (l.map T.bool):=by
 intro es
 induction es with
 |nil=>rfl
 |cons e es ih =>
  obtain⟨m,l⟩:=e
  simp only[List.map_cons,La,uo,T.int,Eo]
  cases k==m
  ·exact ih
  ·rfl
theorem adP{k:Int}{v:T}: ∀ {es:List (Int×List Bool)},Eo k es=none->yu k v (es.map La)=es.map La++[.fU [.int k,v]]:=by
 intro es
 induction es with
 |nil=>intro _; rfl
 |cons e es ih =>
  obtain⟨m,l⟩:=e
  intro h
  simp only[Eo] at h
  cases hb:k==m with
  |true=>rw[hb] at h; cases h
  |false =>
   rw[hb] at h
   simp only[List.map_cons,La,yu,T.int,hb,cond_false,List.cons_append]
   rw[ih h]
theorem Jz{N pn n nx:Nat}{d:Option Nat}{op:lu}{K:Fm->Hz->Prop}{s:AS}{dr:Bool}(hl:s.fr.length=N)(hd: ∀ i,d=some i->i<N)(R:Rp m s.fr)(hh:s.hp=h.aj)(hp:s.pin=pn)(hn:s.nx=nx)(q:ZW dr d n m h K op) :
  jZ P dr n d op (Kz N pn nx K) s:=by
 have hd': ∀ i,d=some i->i<s.fr.length:=fun i e=>by rw[hl]; exact hd i e
 have fin: ∀ {v:V} {h':Hz},K (gy d v m) h'->Kz N pn nx K {(s.put d v.aF) with hp:=h'.aj}:=fun {v h'} hk =>
  ⟨_,h',by show(s.put d v.aF).fr.length=N; rw[Si,hl],R.put (v:=v) hd' rfl,rfl,by show(s.put d v.aF).pin=pn; cases d<;>exact hp,by show(s.put d v.aF).nx=nx; cases d<;>exact hn,hk⟩
 have Z7: ∀ {op:lu} {v:V},bD op=true->Ok s op v->K (gy d v m) h->jZ P dr n d op (Kz N pn nx K) s:=fun {op v} hq ho hk=>by
  rw[aZ hq]
  refine⟨ho.1,?_⟩
  rw[ho.2]
  have:=fin hk
  rw[<- hh] at this
  rw[show({(s.put d v.aF) with hp:=s.hp}:AS)=s.put d v.aF by cases d<;>rfl] at this
  exact this
 unfold ZW at q
 split at q
 ·rename_i ty k x
  split at q
  ·rename_i v e
   split at q
   rename_i v' s' hb
   cases g:CY k [v']&&v'.jv h&&vH k with
   |false=>rw[g] at q; exact q.elim
   |true =>
    rw[g] at q
    simp only[Bool.and_eq_true] at g
    simp only[cond_true] at q
    obtain⟨hs,hk⟩:=jy q
    have ev:s.ev x=v'.aF:=by rw[R.ev e]; exact dI hb (hs (.inl rfl))
    simp only[jZ]
    rw[ev,Ll g.1.1,hh,V.oO g.1.2,g.2]
    refine⟨by simp,?_⟩
    have:=fin hk
    rw[bn] at this
    exact this
  ·exact q.elim
 ·rename_i ty k z
  cases g:z.kd==k&&z.jv h.aj&&z.free&&vH k with
  |false=>rw[g] at q; exact q.elim
  |true =>
   rw[g] at q
   simp only[jZ]
   rw[hh,g]
   refine⟨rfl,?_⟩
   have:=fin q
   rw[bn] at this
   simp only[Option.map_some,OV.ay,uF] at this
   exact this
 ·rename_i ty k bytes z x y
  split at q
  ·rename_i a b e1 e2
   cases g:z.kd==k&&z.jv h.aj&&z.free&&vH k with
   |false=>rw[g] at q; exact q.elim
   |true =>
    rw[g] at q
    simp only[cond_true] at q
    split at q
    ·rename_i r er
     obtain⟨c,hk⟩:=q
     simp only[jZ]
     rw[R.ev e1,R.ev e2]
     simp only[V.aF]
     rw[hh,g]
     refine⟨rfl,c,?_⟩
     have:=fin hk
     rw[bn] at this
     simp only[Option.map_some,OV.ay,V.aS,List.append_nil] at this
     have hr:r.aS=List.replicate a.toNat z:=by
      cases hz:isZero (.int a) with
      |false=>rw[hz] at er; exact ZY er
      |true =>
       rw[hz] at er; cases er
       unfold isZero at hz
       split at hz
       ·rename_i e; cases e; rfl
       ·cases hz
     rw[hr] at this
     exact this
    ·obtain⟨c,hk⟩:=q
     simp only[jZ]
     rw[R.ev e1,R.ev e2]
     simp only[V.aF]
     rw[hh,g]
     refine⟨rfl,c,?_⟩
     have:=fin hk
     rw[bn] at this
     simp only[Option.map_some,OV.ay] at this
     rw[bY,List.map_replicate,uF] at this
     exact this
  ·exact q.elim
 ·rename_i k x v
  split at q
  ·rename_i i j off v0 e1 e2
   split at q
   rename_i v' s' hb
   cases g:CY k [v']&&v'.jv h with
   |false=>rw[g] at q; exact q.elim
   |true =>
    rw[g] at q
    simp only[Bool.and_eq_true] at g
    simp only[cond_true] at q
    have fin2: ∀ {h':Hz},K m h'->Kz N pn nx K {s with hp:=h'.aj}:=fun {h'} hk=>⟨m,h',hl,R,rfl,hp,hn,hk⟩
    have ex:s.ev x= .ptr i j off:=R.ev e1
    simp only[jZ]
    rw[ex]
    simp only
    split at q
    ·rename_i ty ko w eo
     rw[hh,aO eo]
     simp only[OV.ay]
     cases hj:Nat.beq j 0 with
     |false=>rw[hj] at q; exact q.elim
     |true =>
      have:=eF hj; subst this
      rw[hj] at q
      simp only[cond_true] at q
      cases hb2:(Nat.beq off 0&&Nat.beq ko k) with
      |true =>
       rw[hb2] at q
       simp only[cond_true] at q
       obtain⟨hs,hk⟩:=jy q
       have ev:s.ev v=v'.aF:=by rw[R.ev e2]; exact dI hb (hs (.inl rfl))
       simp only[Bool.and_eq_true] at hb2
       have f1:=eF hb2.1; have f2:=eF hb2.2; subst f1; subst f2
       rw[ev,Ll g.1,V.oO g.2]
       refine⟨by simp,by simp,by simp,?_⟩
       have:=fin2 hk
       rw[bn] at this
       simp only[BEq.rfl,Bool.and_self,cond_true,List.set_cons_zero]
       exact this
      |false =>
       rw[hb2] at q
       simp only[cond_false] at q
       cases hc:(!(Nat.beq ko 0)&&lJ (aY ko) off k) with
       |false=>rw[hc] at q; exact q.elim
       |true =>
        rw[hc] at q
        simp only[cond_true] at q
        split at q
        ·rename_i w' hw
         rw[V.force_eq] at q
         obtain⟨hs,hk⟩:=jy q
         have ev:s.ev v=v'.aF:=by rw[R.ev e2]; exact dI hb (hs (.inl rfl))
         have hb':(off==0&&ko==k)=false:=by
          rw[Bool.and_eq_false_iff] at hb2 ⊢
          rcases hb2 with hb2|hb2
          ·left; simpa using Nat.ne_of_beq_eq_false hb2
          ·right; simpa using Nat.ne_of_beq_eq_false hb2
         simp only[Bool.and_eq_true] at hc
         rw[ev,Ll g.1,V.oO g.2]
         refine⟨by simp,by simp,?_,?_⟩
         ·simp only[hb',Bool.false_or,Bool.and_eq_true]; exact⟨XI hc.1,hc.2⟩
         ·have:=fin2 hk
          rw[bn] at this
          simp only[hb',cond_false,List.set_cons_zero,List.getD_cons_zero]
          have ew:w.aF.splice off v'.aF=w'.aF:=by
           unfold setCells at hw
           split at hw
           ·rename_i l c f1 f2
            cases hw
            unfold T.splice
            rw[V.DU f1,V.DU f2]
            simp only[V.aF,tZ,G7,G8,dH]
           ·cases hw
          rw[ew]
          exact this
        ·exact q.elim
    ·rename_i ty ko r eo
     rw[hh,aO eo]
     simp only[OV.ay,V.aS,List.append_nil]
     cases hb2:(Nat.beq off 0&&Nat.beq ko k) with
     |false=>rw[hb2] at q; exact q.elim
     |true =>
      rw[hb2] at q
      simp only[cond_true] at q
      split at q
      ·rename_i r' hr
       obtain⟨hs,hk0⟩:=jy q
       obtain⟨XQ,hk⟩:=hk0
       have ev:s.ev v=v'.aF:=by rw[R.ev e2]; exact dI hb (hs (.inl rfl))
       simp only[Bool.and_eq_true] at hb2
       have f1:=eF hb2.1; have f2:=eF hb2.2; subst f1; subst f2
       rw[Rw.xA] at XQ
       rw[ev,Ll g.1,V.oO g.2]
       refine⟨by simp,by rw[Rw.dF]; omega,by simp,?_⟩
       have:=fin2 hk
       rw[bn] at this
       simp only[Option.map_some,OV.ay,V.aS,List.append_nil,Rw.Sj hr] at this
       simp only[BEq.rfl,Bool.and_self,cond_true]
       exact this
      ·obtain⟨hs,hk0⟩:=jy q
       obtain⟨XQ,hk⟩:=hk0
       have ev:s.ev v=v'.aF:=by rw[R.ev e2]; exact dI hb (hs (.inl rfl))
       simp only[Bool.and_eq_true] at hb2
       have f1:=eF hb2.1; have f2:=eF hb2.2; subst f1; subst f2
       rw[Rw.xA] at XQ
       rw[ev,Ll g.1,V.oO g.2]
       refine⟨by simp,by rw[Rw.dF]; omega,by simp,?_⟩
       have:=fin2 hk
       rw[bn] at this
       simp only[Option.map_some,OV.ay] at this
       rw[bY,List.map_set,<- bY,Rw.Pn] at this
       simp only[BEq.rfl,Bool.and_self,cond_true]
       exact this
    ·rename_i ty ko y eo
     rw[hh,aO eo]
     simp only[OV.ay]
     cases hb2:(Nat.beq off 0&&Nat.beq ko k) with
     |false=>rw[hb2] at q; exact q.elim
     |true =>
      rw[hb2] at q
      simp only[cond_true] at q
      obtain⟨hs,hk0⟩:=jy q
      obtain⟨XQ,hk⟩:=hk0
      have ev:s.ev v=v'.aF:=by rw[R.ev e2]; exact dI hb (hs (.inl rfl))
      simp only[Bool.and_eq_true] at hb2
      have f1:=eF hb2.1; have f2:=eF hb2.2; subst f1; subst f2
      rw[ev,Ll g.1,V.oO g.2]
      refine⟨by simp,by rw[dH]; exact XQ,by simp,?_⟩
      have:=fin2 hk
      rw[bn] at this
      simp only[Option.map_some,OV.ay] at this
      rw[bY,List.map_set,<- bY] at this
      simp only[BEq.rfl,Bool.and_self,cond_true]
      exact this
    ·exact q.elim
  ·rename_i x0 v0 _ e1 e2
   split at q
   ·rename_i i j off s0 hb0
    split at q
    rename_i v' s' hb
    cases g:CY k [v']&&v'.jv h&&Nat.beq off 0 with
    |false=>rw[g] at q; exact q.elim
    |true =>
     rw[g] at q
     simp only[Bool.and_eq_true] at g
     simp only[cond_true] at q
     obtain⟨hs,hk⟩:=jy q
     have hs2:=Sd.jW.1 (hs (.inl rfl))
     have ex:s.ev x= .ptr i j off:=by rw[R.ev e1,dI hb0 hs2.1]; rfl
     have ev:s.ev v=v'.aF:=by rw[R.ev e2]; exact dI hb hs2.2
     have f1:=eF g.2; subst f1
     obtain⟨ty,r,r',h',a1,a2,a3,a4,a5⟩:=hk.ok
     rw[Rw.xA] at a3
     simp only[jZ]
     rw[ex]
     simp only
     rw[hh,aO a1]
     simp only[OV.ay,V.aS,List.append_nil]
     rw[ev,Ll g.1.1,V.oO g.1.2]
     refine⟨by simp,by rw[Rw.dF]; omega,by simp,?_⟩
     simp only[BEq.rfl,Bool.and_self,cond_true]
     rw[<- Rw.Sj a2]
     refine⟨m,h',hl,R,?_,hp,hn,a5⟩
     rw[a4]; simp only[OV.ay,V.aS,List.append_nil]
   ·exact q.elim
  ·exact q.elim
 ·rename_i k x
  split at q
  ·rename_i v0 e1
   split at q
   ·rename_i i j off s0 hb0
    split at q
    ·rename_i ty ko y eo
     cases hb2:(Nat.beq off 0&&Nat.beq ko k) with
     |false=>rw[hb2] at q; exact q.elim
     |true =>
      rw[hb2] at q
      simp only[cond_true] at q
      obtain⟨hs,hk⟩:=jy q
      have ex:s.ev x= .ptr i j off:=by rw[R.ev e1,dI hb0 (hs (.inl rfl))]; rfl
      simp only[Bool.and_eq_true] at hb2
      have f1:=eF hb2.1; have f2:=eF hb2.2; subst f1; subst f2
      obtain⟨v,hv,hk⟩:=hk.ok
      rw[V.seq_eq] at hk
      refine Z7 rfl ?_ hk
      have hj:j<y.length:=by
       rcases Nat.lt_or_ge j y.length with h|h
       ·exact h
       ·rw[List.getElem?_eq_none h] at hv; cases hv
      unfold Ok; simp only[qc,qt]; rw[ex]
      simp only[hh,aO eo,OV.ay]
      simp only[BEq.rfl,Bool.and_self,Bool.true_or,cond_true,dH]
      exact⟨⟨hj,trivial⟩,uG hv⟩
    ·exact q.elim
   ·rename_i i j off s0 hb0
    obtain⟨hs,hk⟩:=jy q
    have ex:s.ev x=(V.ptr i j off).aF:=by rw[R.ev e1,dI hb0 (hs (.inl rfl))]; rfl
    obtain⟨ty,ko,r,eo,hk⟩:=hk.ok
    split at hk
    ·rename_i v s' hq
     obtain⟨hs',hk⟩:=jy hk
     rw[V.seq_eq] at hk
     exact Z7 rfl (QB hh (u:=.ptr i j off) (by simp only[ldZ,eo]; exact hq) (hs' (.inl rfl)) ex) hk
    ·exact hk.elim
   ·exact q.elim
  ·exact q.elim
 ·rename_i k x i
  split at q
  ·rename_i v0 w0 e1 e2
   split at q
   ·rename_i o s0 n0 s1 hb0 hb1
    obtain⟨hs,hk⟩:=jy q
    have hs2:=Sd.jW.1 (hs (.inl rfl))
    have ex:s.ev x=(V.own o).aF:=by rw[R.ev e1,dI hb0 hs2.1]; rfl
    have ei:s.ev i=(V.int n0).aF:=by rw[R.ev e2,dI hb1 hs2.2]
    obtain⟨ty,ko,r,eo,hk⟩:=hk.ok
    cases hb2:Nat.beq ko k with
    |false=>rw[hb2] at hk; exact hk.elim
    |true =>
     rw[hb2] at hk
     simp only[cond_true] at hk
     obtain⟨hr,hk⟩:=hk
     have hok:Ok s (.ia k x i) (.ptr o n0.toNat 0):=XJ hh (u:=.own o) (v:=.int n0) (r:=.ptr o n0.toNat 0) (sd:=.yes (r.rng n0)) (by simp only[iaZ,eo,hb2,dB,cond_true]) hr ex ei
     exact Z7 (v:=.pin o n0.toNat 0) rfl ⟨hok.1,hok.2⟩ hk
   ·exact q.elim
  ·exact q.elim
 ·rename_i str x
  split at q
  ·rename_i v0 e1
   split at q
   ·rename_i o s0 hb0
    obtain⟨hs,hk⟩:=jy q
    have ex:s.ev x=(V.own o).aF:=by rw[R.ev e1,dI hb0 (hs (.inl rfl))]; rfl
    obtain⟨ty,ko,r,eo,hk⟩:=hk.ok
    cases hb2:(!str&& !(Nat.beq ko eP)) with
    |false=>rw[hb2] at hk; exact hk.elim
    |true =>
     rw[hb2] at hk
     simp only[cond_true] at hk
     rw[V.seq_eq] at hk
     exact Z7 rfl (RX hh (u:=.own o) (r:=r.lenV) (sd:=.no) (by simp only[ZO,eo,hb2,dB,cond_true]) ex) hk
   ·exact q.elim
  ·exact q.elim
 ·rename_i ty k bytes x y
  split at q
  ·rename_i vx vy e1 e2
   split at q
   ·rename_i r' x' es
    simp only[jZ]
    rw[R.ev e1,R.ev e2,hh,Z4 es]
    simp only
    split at q
    ·rename_i k'
     obtain⟨c,hk⟩:=q
     have e0:(V.row k' true Rw.nil).aF= .sl k' true []:=rfl
     rw[e0]
     unfold o8 at c
     rw[wB] at c
     refine⟨.inr rfl,.inl (.inl rfl),by simpa using c.1,by simpa using c.2,?_⟩
     have:=fin hk
     rw[bn] at this
     exact this
    ·rename_i k' r hnn
     cases hb2:Nat.beq k' k with
     |false=>rw[hb2] at q; exact q.elim
     |true =>
      rw[hb2] at q
      have:=eF hb2; subst this
      simp only[cond_true] at q
      split at q
      ·rename_i w hw
       obtain⟨c1,c2,hk⟩:=q.ok
       simp only[V.aF]
       unfold o8 at c2
       rw[wB] at c1 c2
       refine⟨.inl trivial,?_,by rw[Rw.dF]; exact c2.1,by rw[Rw.dF]; exact c2.2,?_⟩
       ·rcases c1 with (c|c)|⟨c,hk2⟩
        ·left; left; exact List.eq_nil_of_length_eq_zero (by rw[Rw.dF]; exact c)
        ·left; right; intro e; rw[e] at c; simp at c
        ·right
         refine⟨c,?_⟩
         have f1:=fin hk2
         rw[<- hh] at f1
         rw[show({(s.put d (V.row k' true r).aF) with hp:=s.hp}:AS)=s.put d (.sl k' true r.aS) by cases d<;>rfl] at f1
         exact f1
       ·have:=fin hk
        rw[bn] at this
        simp only[Option.map_some,OV.ay,Rw.Fa hw,List.append_assoc] at this
        exact this
      ·exact q.elim
    ·rename_i i
     split at q
     ·rename_i ty' ko r xx eo
      cases hb2:(Nat.beq ko k&&Nat.beq ty' ty) with
      |false=>rw[hb2] at q; exact q.elim
      |true =>
       rw[hb2] at q
       simp only[cond_true] at q
       simp only[Bool.and_eq_true] at hb2
       have f1:=eF hb2.1; have f2:=eF hb2.2; subst f1; subst f2
       split at q
       ·rename_i w z hw
        obtain⟨c,hk⟩:=q
        simp only[V.aF,aO eo,OV.ay]
        unfold o8 at c
        rw[wB,wB] at c
        refine⟨by simp,c.1,c.2,?_⟩
        have:=fin hk
        rw[bn,bn] at this
        simp only[Option.map_some,Option.map_none,OV.ay,Z5 hw] at this
        exact this
       ·exact q.elim
     ·rename_i ty' ko y eo
      cases hb2:(Nat.beq ko k&&Nat.beq ty' ty) with
      |false=>rw[hb2] at q; exact q.elim
      |true =>
       rw[hb2] at q
       simp only[cond_true] at q
       simp only[Bool.and_eq_true] at hb2
       have f1:=eF hb2.1; have f2:=eF hb2.2; subst f1; subst f2
       obtain⟨c,hk⟩:=q
       simp only[V.aF,aO eo,OV.ay]
       unfold o8 at c
       rw[wB] at c
       refine⟨by simp,by rw[dH]; exact c.1,by rw[dH]; exact c.2,?_⟩
       have:=fin hk
       rw[bn,bn] at this
       simp only[Option.map_some,Option.map_none,OV.ay,tZ,Rw.Pn] at this
       exact this
     ·exact q.elim
    ·rename_i i
     obtain⟨r,h',a1,a2,hk⟩:=q.ok
     split at hk
     ·rename_i w hw
      obtain⟨c,hk⟩:=hk
      simp only[V.aF,aO a1,OV.ay,V.aS,List.append_nil]
      unfold o8 at c
      rw[wB] at c
      refine⟨by simp,by rw[Rw.dF]; exact c.1,by rw[Rw.dF]; exact c.2,?_⟩
      have:=fin hk
      rw[bn,a2] at this
      simp only[Option.map_some,OV.ay,Rw.Fa hw,List.append_assoc] at this
      exact this
     ·exact hk.elim
    ·exact q.elim
   ·exact q.elim
  ·exact q.elim
 ·rename_i k z x
  split at q
  ·rename_i i lo hi e
   split at q
   ·rename_i ty ko r eo
    cases g:(Nat.beq ko k&&z.kd==k&&z.jv h.aj&&z.free) with
    |false=>rw[g] at q; exact q.elim
    |true =>
     rw[g] at q
     simp only[cond_true] at q
     obtain⟨⟨c1,c2⟩,hk⟩:=q
     simp only[Bool.and_eq_true] at g
     obtain⟨⟨⟨g1,g2⟩,g3⟩,g4⟩:=g
     have f1:=eF g1; subst f1
     simp only[jZ]
     rw[R.ev e]
     simp only[V.aF,hh,aO eo,OV.ay]
     refine⟨by simp[g2,g3,g4],by simp[Rw.dF,c2,V.aS],?_⟩
     have el:(r.take lo).aS++V.aS (List.replicate (hi-lo) (uJ z))=List.take lo (r.aS++V.aS [])++List.replicate (hi-lo) z++List.drop hi (r.aS++V.aS []):=by
      rw[Rw.yJ,bY,List.map_replicate,uF]
      simp[V.aS,Rw.dF,c2]
     cases d with
     |none =>
      simp only at hk
      refine⟨_,_,hl,R,?_,hp,hn,hk⟩
      rw[bn]
      simp only[Option.map_some,OV.ay,el]
     |some dd =>
      simp only at hk
      have:=fin hk
      rw[bn] at this
      simp only[Option.map_some,OV.ay,el] at this
      exact this
   ·exact q.elim
  ·exact q.elim
 ·rename_i ty k z nn ps
  split at q
  ·rename_i vs s' hb
   split at q
   ·rename_i l hl
    cases g:((z.kd==k)&&z.free&&CY k vs&&zN h vs&&Nat.ble (nn*aY k) 16777216&&vH k) with
    |false=>rw[g] at q; exact q.elim
    |true =>
     rw[g] at q
     simp only[cond_true] at q
     obtain⟨hs,hk⟩:=jy q
     have he:=qU R hb (hs (.inl rfl))
     have he':(ps.map fun p=>s.ev p.2)=V.aS vs:=by rw[<- he]; simp
     simp only[Bool.and_eq_true] at g
     obtain⟨⟨⟨⟨⟨g1,g2⟩,g3⟩,g4⟩,g5⟩,g6⟩:=g
     obtain⟨i1,i2⟩:=RY hl he' g3
     have e:V.aS (List.replicate nn (uJ z))=List.replicate nn z:=by rw[bY,List.map_replicate,uF]
     rw[e] at i2
     simp only[jZ]
     rw[i1,i2,he',hh,DV g4,g1,g2,g5,g6]
     refine⟨rfl,?_⟩
     have:=fin hk
     rw[bn] at this
     simp only[Option.map_some,OV.ay,Rw.aS,List.nil_append] at this
     exact this
   ·exact q.elim
  ·exact q.elim
 ·rename_i x
  split at q
  ·rename_i k' f r e
   obtain⟨q1,q2⟩:=q
   simp only[jZ]
   rw[R.ev e]
   have f1:=fun hz=>fin (q1 hz)
   have f2:=fin q2
   rw[<- hh] at f1 f2
   refine⟨fun hl=>?_,?_⟩
   ·have:=f1 (by rw[<- Rw.dF]; exact congrArg List.length hl)
    rw[show({(s.put d (V.bool true).aF) with hp:=s.hp}:AS)=s.put d (.lit (.bool true)) by cases d<;>rfl] at this
    exact this
   ·rw[show({(s.put d (V.bool false).aF) with hp:=s.hp}:AS)=s.put d (.lit (.bool false)) by cases d<;>rfl] at f2
    exact f2
  ·rename_i i e
   split at q
   ·rename_i ty ko r eo
    cases hb:Nat.beq ko eP with
    |true=>rw[hb] at q; exact q.elim
    |false =>
     rw[hb] at q
     obtain⟨q1,q2⟩:=q
     simp only[jZ]
     rw[R.ev e]
     have f1:=fun hz=>fin (q1 hz)
     have f2:=fin q2
     rw[<- hh] at f1 f2
     simp only[V.aF,hh,aO eo,OV.ay]
     refine⟨fun hl=>?_,?_,Nat.ne_of_beq_eq_false hb⟩
     ·have:=f1 (by rw[<- Rw.dF]; simpa [V.aS] using congrArg List.length hl)
      rw[show({(s.put d (V.bool true).aF) with hp:=s.hp}:AS)=s.put d (.lit (.bool true)) by cases d<;>rfl] at this
      exact this
     ·rw[show({(s.put d (V.bool false).aF) with hp:=s.hp}:AS)=s.put d (.lit (.bool false)) by cases d<;>rfl] at f2
      exact f2
   ·exact q.elim
  ·exact q.elim
 ·rename_i ty
  simp only[jZ]
  have:=fin q
  rw[bn] at this
  rw[hh]
  exact this
 ·rename_i z x i
  split at q
  ·rename_i o k e1 e2
   split at q
   ·rename_i ty es eo
    obtain⟨q1,q2⟩:=q
    rw[aZ rfl]
    simp only[qc,qt]
    rw[R.ev e1,R.ev e2]
    simp only[V.aF,T.int,hh,aO eo,OV.ay,List.map_nil,List.append_nil,acB]
    refine⟨trivial,?_⟩
    cases hg:Eo k es with
    |some l =>
     have f1:=fin (q1 l hg)
     rw[<- hh] at f1
     rw[show({(s.put d (V.fU [.row 0 false (.bools l),.bool true]).aF) with hp:=s.hp}:AS)=s.put d (.fU [.sl 0 false (l.map T.bool),.lit (.bool true)]) by cases d<;>rfl] at f1
     exact f1
    |none =>
     have f2:=fin (q2 hg)
     rw[<- hh] at f2
     rw[show({(s.put d (V.fU [uJ z,.bool false]).aF) with hp:=s.hp}:AS)=s.put d (.fU [(uJ z).aF,.lit (.bool false)]) by cases d<;>rfl,uF] at f2
     exact f2
   ·exact q.elim
  ·exact q.elim
 ·rename_i x i v
  split at q
  ·rename_i o k w e1 e2 e3
   split at q
   rename_i v' s' hb
   split at q
   ·rename_i ty es eo
    cases g:CY 0 [v']&&v'.jv h with
    |false=>rw[g] at q; exact q.elim
    |true =>
     rw[g] at q
     simp only[Bool.and_eq_true] at g
     simp only[cond_true] at q
     obtain⟨hs,c,hk⟩:=jy q
     have ev:s.ev v=v'.aF:=by rw[R.ev e3]; exact dI hb (hs (.inl rfl))
     have hkd:=Ll g.1
     have hst:=V.oO g.2
     simp only[jZ]
     rw[R.ev e1,R.ev e2,ev]
     simp only[V.aF,T.int,hh,aO eo,OV.ay,List.map_nil,List.append_nil]
     refine⟨trivial,?_,?_⟩
     ·rw[hkd]
      have:v'.aF.vM h.aj=true:=by
       revert hst hkd
       cases v'.aF<;>simp[T.jv,T.kd]
      rw[this]; rfl
     ·have hK:Kz N pn nx K {s with hp:=Hz.aj ((o,some (.map ty es [(k,v')]))::h)}:=⟨m,_,hl,R,rfl,hp,hn,hk⟩
      rw[bn] at hK
      have:=adP (v:=v'.aF) c
      simp only[T.int] at this
      rw[this]
      exact hK
   ·exact q.elim
  ·exact q.elim
 ·exact q.elim
end
section
variable {P:Program} {m:Fm} {h:Hz}
theorem Kz.put{N pn nx:Nat}{K:Fm->Hz->Prop}{s:AS}{d:Option Nat}{v:V}{t:T}{h':Hz}(hl:s.fr.length=N)(hd: ∀ i,d=some i->i<N)(R:Rp m s.fr)(hp:s.pin=pn)(hn:s.nx=nx)(ht:t=v.aF)(hk:K (gy d v m) h') :
  Kz N pn nx K {(s.put d t) with hp:=h'.aj}:=by
 subst ht
 exact⟨_,h',by show(s.put d v.aF).fr.length=N; rw[Si,hl],R.put (v:=v) (fun i e=>by rw[hl]; exact hd i e) rfl,rfl,by show(s.put d v.aF).pin=pn; cases d<;>exact hp,by show(s.put d v.aF).nx=nx; cases d<;>exact hn,hk⟩
theorem He{N pn nx n:Nat}{K:Fm->Hz->Prop}{KW:Nat->Fm->Hz->Prop}{s:AS}{d:Option Nat}{dr:Bool}{g:Option Bool}{f:FuncId}{l:List V}(hl:s.fr.length=N)(hd: ∀ i,d=some i->i<N)(R:Rp m s.fr)(hh:s.hp=h.aj)(hp:s.pin=pn)(hn:s.nx=nx)
  (hg:g=none\/g=some true) (q:ah P dr g f l h n (fun v h'=>v.seq fun v=>K (gy d (oV g v) m) h') (fun k v h'=>v.seq fun v=>KW k (gy d v m) h')) (hq:dr=true-> ∀ (v:V) (h':Hz),¬ (v.seq fun v=>KW 0 (gy d v m) h')) :
  kQ P dr n d f (V.aS l) (Kz N pn nx K) s\/(dr=false/\ ∃ k,wW P f (V.aS l) s.hp n k fun t hp=>Kz N pn (nx+k) (KW k) {(s.put d t) with hp:=hp,nx:=s.nx+k}):=by
 unfold kQ
 rw[hh]
 rcases q.ok with q|⟨rfl,rfl,k,q⟩|⟨_,hdr,_,⟨_,_,v,o,_,_,hk⟩,_⟩
 rotate_left
 rotate_left
 ·exact absurd hk (hq hdr _ _)
 rotate_left
 ·refine .inr ⟨rfl,k,q.mono ?_⟩
  rintro t hp' ⟨v,h',rfl,rfl,hk⟩
  rw[V.seq_eq] at hk
  obtain⟨m',h'',a1,a2,a3,a4,_,a6⟩:=Kz.put (K:=KW k) hl hd R hp hn rfl hk
  exact⟨m',h'',a1,a2,a3,a4,by show s.nx+k=nx+k; rw[hn],a6⟩
 left
 rcases hg with rfl|rfl
 ·refine aT.mono q ?_
  rintro t hp' ⟨v,h',e1,e2,e3,hk⟩
  rw[V.seq_eq] at hk
  subst e2
  refine⟨fun e=>⟨by rw[(e3 e).1],(e3 e).2⟩,Kz.put (v:=v) hl hd R hp hn e1 hk⟩
 ·rcases q with ⟨v,c,hf,hk⟩|⟨hdr,c,_⟩
  rotate_left
  ·refine aT.mono (c rfl) ?_
   rintro t hp' ⟨v,h',e1,e2,hk⟩
   rw[V.seq_eq] at hk
   subst e2
   exact⟨fun e=>(by rw[hdr] at e; cases e),Kz.put (v:=oV (some true) v) hl hd R hp hn (e1.trans (DX v).symm) hk⟩
  rw[V.seq_eq] at hk
  refine aT.mono (c rfl) ?_
  rintro t hp' ⟨e1,e2⟩
  subst e2
  refine⟨fun _=>⟨rfl,by rw[e1]; exact V.kL v hf⟩,Kz.put (v:=oV (some true) v) hl hd R hp hn (by rw[e1]; exact(DX v).symm) hk⟩
theorem uH{N pn nx n:Nat}{K:Fm->Hz->Prop}{s:AS}{d:Option Nat}{dr:Bool}{g:Option Bool}{f:FuncId}{l:List V}(hl:s.fr.length=N)(hd: ∀ i,d=some i->i<N)(R:Rp m s.fr)(hh:s.hp=h.aj)(hp:s.pin=pn)(hn:s.nx=nx)
  (hg:g=none\/g=some true) (q:ah P dr g f l h n (fun v h'=>v.seq fun v=>K (gy d (oV g v) m) h') (fun _ _ _=>False)):kQ P dr n d f (V.aS l) (Kz N pn nx K) s:=by
 rcases He (KW:=fun _ _ _=>False) hl hd R hh hp hn hg ⟨q.ok.imp id fun h=>h.imp (fun⟨a,b,k,c⟩=>⟨a,b,k,c.mono fun _ _ ⟨_,_,_,_,h⟩=>h.elim⟩) (fun⟨a,b,d,c⟩=>⟨a,b,d,c.mono fun _ _ ⟨_,_,_,_,h⟩=>h.elim⟩)⟩ (fun _ v h' hk=>by rw[V.seq_eq] at hk; exact hk) with h|⟨_,k,⟨t,hp',hk⟩,_⟩
 ·exact h
 ·obtain⟨_,_,_,_,_,_,_,hk⟩:=hk; exact hk.elim
theorem ah.guard{dr:Bool}{f:FuncId}{args:List V}{n:Nat}{K:V->Hz->Prop}{KW:Nat->V->Hz->Prop}(q:ah P dr (some false) f args h n K KW): ∃ v,K v h:=by
 rcases q.ok with (⟨v,_,_,k⟩|⟨_,_,k⟩)|⟨h1,_⟩|⟨h1,_⟩
 ·exact⟨v,k⟩
 ·exact⟨_,k rfl⟩
 ·cases h1
 ·cases h1
theorem UN{dr fl:Bool}{a b c:Prop}:Aw dr fl a b c↔(dr=false/\a)\/(dr=true/\bif fl then c else b):=by
 cases dr<;>cases fl<;>simp[Aw]
theorem qh{dr fl:Bool}{C:Bool->Prop}(q:Aw dr fl (C false) (C true) (C false)):C (dr&& !fl):=by
 cases dr<;>cases fl<;>exact q
theorem QE{N pn nx n:Nat}{KK:Nat->Fm->Hz->Prop}{s:AS}{o:aI}{dr:Bool}(hl:s.fr.length=N)(hd: ∀ i,o.d=some i->i<N)(R:Rp m s.fr)(hh:s.hp=h.aj)(hp:s.pin=pn)(hn:s.nx=nx)
  (q:acz P dr nx n o KK m h):(gv o.g s=some true/\iH o s/\(jZ P (o.dr dr) n o.d o.op (Kz N pn nx (KK 0)) s\/opW P dr n o.d o.op (fun s'=> ∃ k,Kz N pn (nx+k) (KK k) s') s))\/(gv o.g s=some false/\Kz N pn nx (KK 0) (s.put o.d T.un)):=by
 unfold acz at q
 split at q
 ·exact q.elim
 ·rename_i g hg
  cases hf:Es nx o m with
  |false=>rw[hf] at q; exact q.elim
  |true =>
   rw[hf] at q
   simp only[cond_true] at q
   have hfl:iH o s:=G9 R (by rw[hn]; exact hf)
   have un: ∀ {v:V} {h':Hz},h'=h->KK 0 (gy o.d (oV (some false) v) m) h'->Kz N pn nx (KK 0) (s.put o.d T.un):=fun {v h'} e hk=>by
    subst e
    have:=Kz.put (s:=s) (v:=oV (some false) v) (t:=T.un) hl hd R hp hn (QC v).symm hk
    rw[<- hh] at this
    have e2:({(s.put o.d T.un) with hp:=s.hp}:AS)=s.put o.d T.un:=by
     cases o.d<;>rfl
    rw[e2] at this
    exact this
   rcases UM R hg with ⟨h1,h2⟩|⟨h1,rfl⟩
   ·refine .inl ⟨h1,hfl,?_⟩
    split at q
    ·rename_i f xs eo
     split at q
     ·rename_i l sd hb
      obtain⟨hs,q⟩:=jy q
      have ed:o.dr dr=(dr&& !o.fl):=by unfold aI.dr; rw[eo]
      rw[ed,eo]
      show kQ P (dr&& !o.fl) n o.d f (xs.map s.ev) _ s\/(dr=false/\ ∃ k,wW P f (xs.map s.ev) s.hp n k _)
      rw[qU R hb (hs h2)]
      split at q
      ·rw[UN] at q
       rcases q with ⟨e,q⟩|q
       ·rw[e]
        exact(He (g:=none) hl hd R hh hp hn h2 q (fun e=>by cases e)).imp id fun⟨a,k,b⟩=>⟨a,k,b.mono fun _ _ hk=>⟨k,hk⟩⟩
       ·obtain⟨hdt,q⟩:=q
        refine .inl (uH (g:=none) hl hd R hh hp hn h2 ?_)
        rw[hdt]
        cases hf2:o.fl<;>rw[hf2] at q<;>exact q
      ·rename_i bb _
       exact .inl (uH hl hd R hh hp hn h2 (qh (C:=fun dr=>ah P dr (some bb) f l h n (fun v h'=>v.seq fun v=>KK 0 (gy o.d (oV (some bb) v) m) h') (fun _ _ _=>False)) q))
     ·exact q.elim
    ·rename_i x xs eo
     split at q
     ·rename_i v0 l sd e1 hb
      split at q
      ·rename_i f cap s0 hb0
       obtain⟨hs,q⟩:=jy q
       have hs2:=Sd.jW.1 (hs h2)
       have ed:o.dr dr=(dr&& !o.fl):=by unfold aI.dr; rw[eo]
       rw[ed,eo]
       left
       simp only[jZ]
       rw[R.ev e1,dI hb0 hs2.1]
       simp only[V.aF]
       rw[qU R hb hs2.2,<- tZ]
       cases hbl:Nat.blt f 4096 with
       |true=>rw[hbl] at q; exact uH hl hd R hh hp hn h2 (qh (C:=fun dr=>ah P dr g f (l++cap) h n (fun v h'=>v.seq fun v=>KK 0 (gy o.d (oV g v) m) h') (fun _ _ _=>False)) q)
       |false=>rw[hbl] at q; exact uH (l:=.agg cap::l) hl hd R hh hp hn h2 (qh (C:=fun dr=>ah P dr g (f % 4096) (.agg cap::l) h n (fun v h'=>v.seq fun v=>KK 0 (gy o.d (oV g v) m) h') (fun _ _ _=>False)) q)
      ·exact q.elim
     ·exact q.elim
    ·rename_i hn1 hn2
     have ed:o.dr dr=dr:=by
      unfold aI.dr
      split
      ·rename_i e; exact absurd e (hn1 _ _)
      ·rename_i e; exact absurd e (hn2 _ _)
      ·rfl
     rw[ed]
     left
     split at q
     ·rename_i v sd hq
      obtain⟨hs,hk⟩:=jy q
      rw[V.seq_eq] at hk
      obtain⟨hqu,hc,ht⟩:=XM R hh hq (hs h2)
      rw[aZ hqu]
      refine⟨hc,?_⟩
      have:=Kz.put (s:=s) (v:=oV g v) (t:=qt s o.op) hl hd R hp hn (by rw[ht]; rcases h2 with rfl|rfl; rfl; exact(DX v).symm) hk
      rw[<- hh] at this
      have e2:({(s.put o.d (qt s o.op)) with hp:=s.hp}:AS)=s.put o.d (qt s o.op):=by cases o.d<;>rfl
      rw[e2] at this
      exact this
     ·split at q
      ·exact Jz hl hd R hh hp hn q
      ·rename_i b _
       rcases h2 with h2|h2
       ·cases h2
       ·cases h2
        obtain⟨qa,_⟩:=q
        exact Jz hl hd R hh hp hn (qa rfl)
   ·refine .inr ⟨h1,?_⟩
    split at q
    ·split at q
     ·obtain⟨hs,q⟩:=jy q
      obtain⟨v,hk⟩:=ah.guard (qh (C:=fun dr=>ah P dr (some false) _ _ h n (fun v h'=>v.seq fun v=>KK 0 (gy o.d (oV (some false) v) m) h') (fun _ _ _=>False)) q)
      rw[V.seq_eq] at hk
      exact un rfl hk
     ·exact q.elim
    ·split at q
     ·rename_i v0 l sd e1 hb
      split at q
      ·rename_i f cap s0 hb0
       obtain⟨hs,q⟩:=jy q
       cases hbl:Nat.blt f 4096 with
       |true =>
        rw[hbl] at q
        obtain⟨v,hk⟩:=ah.guard (qh (C:=fun dr=>ah P dr (some false) f (l++cap) h n (fun v h'=>v.seq fun v=>KK 0 (gy o.d (oV (some false) v) m) h') (fun _ _ _=>False)) q)
        rw[V.seq_eq] at hk
        exact un rfl hk
       |false =>
        rw[hbl] at q
        obtain⟨v,hk⟩:=ah.guard (qh (C:=fun dr=>ah P dr (some false) (f % 4096) (.agg cap::l) h n (fun v h'=>v.seq fun v=>KK 0 (gy o.d (oV (some false) v) m) h') (fun _ _ _=>False)) q)
        rw[V.seq_eq] at hk
        exact un rfl hk
      ·exact q.elim
     ·exact q.elim
    ·split at q
     ·obtain⟨hs,hk⟩:=jy q
      rw[V.seq_eq] at hk
      exact un rfl hk
     ·obtain⟨_,qb⟩:=q
      have e3:V.cnd false (phZ o.op)=oV (some false) (phZ o.op):=by cases o.op<;>rfl
      exact un (v:=phZ o.op) rfl (by rw[<- e3]; exact qb rfl)
theorem UO{N pn nx n:Nat}{KK:Nat->Fm->Hz->Prop}{s:AS}{o:aI}{dr:Bool}(hl:s.fr.length=N)(hd: ∀ i,o.d=some i->i<N)(R:Rp m s.fr)(hh:s.hp=h.aj)(hp:s.pin=pn)(hn:s.nx=nx)
  (q:opZ P dr nx n o KK m h):(gv o.g s=some true/\iH o s/\(opR P dr n o (Kz N pn nx (KK 0)) s\/opW P dr n o.d o.op (fun s'=> ∃ k,Kz N pn (nx+k) (KK k) s') s))\/(gv o.g s=some false/\Kz N pn nx (KK 0) (s.put o.d T.un)):=by
 unfold opZ at q
 cases har:o.ar with
 |true =>
  rw[har] at q
  simp only at q
  unfold arZ at q
  split at q
  ·rename_i f xs eo eg
   cases hf:(o.fl&&Es nx o m) with
   |false=>rw[hf] at q; exact q.elim
   |true =>
    rw[hf] at q
    simp only[cond_true] at q
    rw[Bool.and_eq_true] at hf
    have hfl:iH o s:=G9 R (by rw[hn]; exact hf.2)
    refine .inl ⟨by rw[eg]; rfl,hfl,.inl (.inr ⟨har,hf.1,?_⟩)⟩
    split at q
    ·rename_i l sd hb
     obtain⟨hs,q⟩:=jy q
     obtain⟨v,ob,c1,c2,c3,hk⟩:=q.ok
     rw[eo]
     refine⟨v.aF,ob.map OV.ay,c1,?_,?_,?_⟩
     ·intro o' ho'
      cases ob with
      |none=>cases ho'
      |some ob=>cases ho'; exact c2 _ rfl
     ·intro hp' he _
      rw[qU R hb (hs (.inl rfl))]
      exact c3 hp' (by rw[<- hh]; exact he)
     ·rw[V.seq_eq] at hk
      cases ob with
      |none =>
       show Kz N pn nx (KK 0) {(s.put o.d v.aF) with hp:=s.hp}
       rw[hh]
       exact Kz.put (v:=v) hl hd R hp hn rfl hk
      |some ob =>
       have e:gG s.hp n (some ob.ay)=Hz.aj ((n,some ob)::h):=by rw[bn,hh]; rfl
       show Kz N pn nx (KK 0) {(s.put o.d v.aF) with hp:=gG s.hp n (some ob.ay)}
       rw[e]
       exact Kz.put (v:=v) hl hd R hp hn rfl hk
    ·exact q.elim
  ·exact q.elim
 |false =>
 rw[har] at q
 simp only at q
 cases had:o.ad with
 |false =>
  rw[had] at q
  rcases QE hl hd R hh hp hn q with ⟨h1,h2,h3⟩|h1
  ·exact .inl ⟨h1,h2,h3.imp (fun h=>.inl ⟨har,iZ (fun s' _ _ h=>⟨fun e=>(by rw[had] at e; cases e),h⟩) h⟩) id⟩
  ·exact .inr h1
 |true =>
  rw[had] at q
  simp only at q
  unfold adZ at q
  split at q
  ·rename_i f xs eo eg
   cases hf:(o.fl&&Es nx o m) with
   |false=>rw[hf] at q; exact q.elim
   |true =>
    rw[hf] at q
    simp only[cond_true] at q
    rw[Bool.and_eq_true] at hf
    have hfl:iH o s:=G9 R (by rw[hn]; exact hf.2)
    refine .inl ⟨by rw[eg]; rfl,hfl,.inl (.inl ⟨har,?_⟩)⟩
    split at q
    ·rename_i l sd hb
     obtain⟨hs,q⟩:=jy q
     have ed:o.dr dr=false:=by unfold aI.dr; rw[eo,hf.1]; cases dr<;>rfl
     rw[ed,eo]
     show aT P f (xs.map s.ev) s.hp n _
     rw[qU R hb (hs (.inl rfl)),hh]
     have hx: ∀ {h':Hz} {s':AS},s'.hp=h'.aj->(h'=h\/ ∃ o,h'=(n,some o)::h/\h.get n=none)-> ∀ i ob,s.hp i=some ob->s'.hp i=some ob:=by
      intro h' s' e1 e2 i ob hi
      rw[e1]
      rw[hh] at hi
      rcases e2 with rfl|⟨o',rfl,hn0⟩
      ·exact hi
      ·rw[bn]
       have hne:i≠n:=by
        rintro rfl
        simp only[Hz.aj,hn0] at hi; cases hi
       simp only[upd,if_neg hne]; exact hi
     rcases q.ok with q|⟨_,e,_⟩|⟨_,_,hn0,q⟩
     ·refine aT.mono q ?_
      rintro t hp' ⟨v,h',e1,e2,e3,hk⟩
      rw[V.seq_eq] at hk
      subst e2
      exact⟨(fun e=>by cases e),fun _=>hx rfl (.inl (e3 rfl).1),Kz.put (v:=v) hl hd R hp hn e1 hk⟩
     ·cases e
     ·refine aT.mono q ?_
      rintro t hp' ⟨v,o',e1,e2,hk⟩
      rw[V.seq_eq] at hk
      subst e2
      exact⟨(fun e=>by cases e),fun _=>hx rfl (.inr ⟨o',rfl,hn0⟩),Kz.put (v:=v) hl hd R hp hn e1 hk⟩
    ·exact q.elim
  ·exact q.elim
theorem OA{N pn ml:Nat}{K:Fm->Hz->Nat->Prop}{dr:Bool}: ∀ {nx:Nat} {ops:List aI} {i:Nat} {m:Fm} {h:Hz} {s:AS},Lj N ops=true->s.fr.length=N->Rp m s.fr->s.hp=h.aj->s.pin=pn->s.nx=nx ->
  Oz P dr ml nx K ops i m h->pq P dr ml (fun s=> ∃ m h,s.fr.length=N/\Rp m s.fr/\s.hp=h.aj/\s.pin=pn/\K m h s.nx) ops i s:=by
 intro nx ops
 induction ops generalizing nx with
 |nil =>
  intro i m h s _ hl R hh hp hn q
  exact⟨m,h,hl,R,hh,hp,by show K m h (s.nx+ml); rw[hn]; exact q⟩
 |cons o r ih =>
  intro i m h s hd hl R hh hp hn q
  simp only[Lj,Bool.and_eq_true] at hd
  have hd1: ∀ j,o.d=some j->j<N:=fun j e=>by
   have:=hd.1
   rw[e] at this
   simpa using this
  simp only[pq]
  rw[Aj]
  have next: ∀ s',s'.nx=s.nx->s'.pin=s.pin->Kz N pn nx (Oz P dr ml nx K r (i+1)) s'->pq P dr ml (fun s=> ∃ m h,s.fr.length=N/\Rp m s.fr/\s.hp=h.aj/\s.pin=pn/\K m h s.nx) r (i+1) s':=by
   rintro s' _ _ ⟨m',h',a1,a2,a3,a4,a5,a6⟩
   exact ih hd.2 a1 a2 a3 a4 a5 a6
  have adQ: ∀ s',(∃ k,Kz N pn (nx+k) (Oz P dr ml (nx+k) K r (i+1)) s')->pq P dr ml (fun s=> ∃ m h,s.fr.length=N/\Rp m s.fr/\s.hp=h.aj/\s.pin=pn/\K m h s.nx) r (i+1) s':=by
   rintro s' ⟨k,m',h',a1,a2,a3,a4,a5,a6⟩
   exact ih hd.2 a1 a2 a3 a4 a5 a6
  rcases UO hl hd1 R hh hp hn q with ⟨h1,h2,h3⟩|⟨h1,h2⟩
  ·refine .inl ⟨h1,h2,?_⟩
   rw[hn]
   exact h3.imp (fun h=>h.imp (fun h=>⟨h.1,iZ (fun s' a b c=>⟨c.1,next s' a b c.2⟩) h.2⟩) fun h=>⟨h.1,h.2.1,GI (fun s' a b c=>next s' a b c) h.2.2⟩) (Oo adQ)
  ·exact .inr ⟨h1,next _ (dV _ _ _) (fP _ _ _) h2⟩
theorem oQ{N pn:Nat}: ∀ {c:fF} {Q:Qz} {m:Fm} {h:Hz} {s:AS},oP N c=true->s.fr.length=N->Rp m s.fr->s.hp=h.aj->s.pin=pn->az P N pn c Q m h s.nx->aw P c (Lift N pn Q) s:=by
 intro c
 induction c with
 |skip=>intro Q m h s _ hl R hh hp q; exact⟨m,h,hl,R,hh,hp,q⟩
 |reg dr ops =>
  intro Q m h s hd hl R hh hp q
  exact OA hd hl R hh hp rfl q
 |seq a b ia ib =>
  intro Q m h s hd hl R hh hp q
  simp only[oP,Bool.and_eq_true] at hd
  simp only[aw]
  refine lq ?_ (ia hd.1 hl R hh hp q)
  rintro e s' ⟨m',h',b1,b2,b3,b4,b5⟩
  cases e with
  |normal=>exact ib hd.2 b1 b2 b3 b4 b5
  |exit j=>exact⟨m',h',b1,b2,b3,b4,b5⟩
  |ret=>exact⟨m',h',b1,b2,b3,b4,b5⟩
 |cond c a b ia ib =>
  intro Q m h s hd hl R hh hp q
  simp only[oP,Bool.and_eq_true] at hd
  simp only[az] at q
  simp only[aw]
  split at q
  ·rename_i t e
   rw[R.ev e]
   obtain⟨q1,q2⟩:=q
   exact⟨fun e=>ia hd.1 hl R hh hp (q1 e),fun e=>ib hd.2 hl R hh hp (q2 e)⟩
  ·exact q.elim
 |blk id b ib =>
  intro Q m h s hd hl R hh hp q
  simp only[aw]
  refine lq ?_ (ib hd hl R hh hp q)
  rintro e s' ⟨m',h',b1,b2,b3,b4,b5⟩
  cases e with
  |normal=>exact⟨m',h',b1,b2,b3,b4,b5⟩
  |ret=>exact⟨m',h',b1,b2,b3,b4,b5⟩
  |exit j =>
   simp only at b5 ⊢
   by_cases e:j=id
   ·subst e; simp at b5 ⊢; exact⟨m',h',b1,b2,b3,b4,b5⟩
   ·have e1:Nat.beq j id=false:=by
     cases hb:Nat.beq j id with
     |false=>rfl
     |true=>exact absurd (eF hb) e
    have e2:(j==id)=false:=by simpa using e
    rw[e1] at b5; rw[e2]
    exact⟨m',h',b1,b2,b3,b4,b5⟩
 |exit i=>intro Q m h s _ hl R hh hp q; exact⟨m,h,hl,R,hh,hp,q⟩
 |ret=>intro Q m h s _ hl R hh hp q; exact⟨m,h,hl,R,hh,hp,q⟩
 |loop b ib =>
  intro Q m h s _ hl R hh hp q
  have:=q.ok s.fr hl R
  rw[<- hh,<- hp] at this
  simp only[aw]
  rw[hp] at this
  have e:(⟨s.fr,s.hp,s.nx,pn⟩:AS)=s:=by rw[<- hp]
  rw[e] at this
  exact this
end
end Go.Ab
