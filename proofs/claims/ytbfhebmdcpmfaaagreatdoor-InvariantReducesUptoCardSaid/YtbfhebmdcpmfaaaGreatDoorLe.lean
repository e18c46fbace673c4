/-
 Three laws in use. No condition.
-/
import Derived.Test.YtbfhebmdcpmfaaaGreatDoorLd
import Derived.Test.YtbfhebmdcpmfaaaGreatDoorLc
namespace Go.Ab
theorem ig{l:List T}:T.dH l=true↔ ∀ t∈l,t.free=true:=by
 induction l with
 |nil=>simp[T.dH]
 |cons t ts ih=>simp[T.dH,ih]
theorem Ez.trans{s s' s'':AS}(h:Ez s s')(h':Ez s' s''):Ez s s'':=by
 induction h' with
 |refl=>exact h
 |slot a _ ih=>exact .slot a ih
 |cell a _ ih=>exact .cell a ih
 |take a _ ih=>exact .take a ih
 |fz a _ ih=>exact .fz a ih
theorem Qo{p:Nat->Prop}: ∀ n,p n-> ∃ m,p m/\ ∀ k,p k->m<=k:=by
 intro n
 induction n using Nat.strongRecOn with
 |ind n ih =>
  intro hn
  by_cases h: ∃ k,k<n/\p k
  ·obtain⟨k,h1,h2⟩:=h; exact ih k h1 h2
  ·exact⟨n,hn,fun k hk=>Nat.le_of_not_lt fun hlt=>h ⟨k,hlt,hk⟩⟩
inductive Dat where
 |lin (x:Ze)
 |Qp (x:yM)
 |rule (x:Rule)
 |dF (x:aU)
 |cnt (x:Cnt)
 |prop (x:Prop')
 |clause (x:Clause)
 |elem (x:Elem)
inductive Rw where
 |ints (l:List Int)
 |bools (l:List Bool)
 |strs (l:List Str)
 |kZ (l:List (List Int))
 |Az (l:List Ze)
 |qp (l:List yM)
 |rules (l:List Rule)
 |cnts (l:List Cnt)
 |clauses (l:List Clause)
 |elems (l:List Elem)
 |nil
inductive V where
 |int (n:Int)
 |bool (b:Bool)
 |u8 (n:Int)
 |str (s:Str)
 |dat (d:Dat)
 |agg (l:List V)
 |row (k:Nat) (full:Bool) (r:Rw)
 |yF (k:Nat) (full:Bool) (l:List V)
 |ref (k:Nat) (v:V)
 |own (i:Nat)
 |ptr (i j off:Nat)
 |qQ (i lo hi:Nat)
 |fn (f:FuncId) (cap:List V)
 |fK (l:List V)
 |cnd (b:Bool) (v:V)
 |raw (t:T)
def Dat.aG:Dat->T
 | .lin x=>Qn x
 | .Qp x=>NZ x
 | .rule x=>Gj x
 | .dF x=>Vl x
 | .cnt x=>Xe x
 | .prop x=>acP x
 | .clause x=>nX x
 | .elem x=>sQ x
def Dat.kd:Dat->Nat
 | .lin _=>5
 | .Qp _=>7
 | .rule _=>19
 | .dF _=>11
 | .cnt _=>3
 | .prop _=>7
 | .clause _=>4
 | .elem _=>3
def Rw.aT:Rw->List T
 | .ints l=>l.map T.int
 | .bools l=>l.map T.bool
 | .strs l=>l.map eS
 | .kZ l=>l.map Go.Ab.ints
 | .Az l=>l.map Qn
 | .qp l=>l.map NZ
 | .rules l=>l.map Gj
 | .cnts l=>l.map Xe
 | .clauses l=>l.map nX
 | .elems l=>l.map sQ
 | .nil=>[]
mutual
def V.aG:V->T
 | .int n=>.int n
 | .bool b=>.bool b
 | .u8 n=>.lit (.int .u8 n)
 | .str s=>eS s
 | .dat d=>d.aG
 | .agg l=>.agg (V.aT l)
 | .row k f r=>.sl k f r.aT
 | .yF k f l=>.sl k f (V.aT l)
 | .ref k v=>.ref k v.aG
 | .own i=>.own i
 | .ptr i j off=>.ptr i j off
 | .qQ i lo hi=>.qQ i lo hi
 | .fn f cap=>.fn f (V.aT cap)
 | .fK l=>.fK (V.aT l)
 | .cnd b v=>bif b then v.aG else T.un
 | .raw t=>t
def V.aT:List V->List T
 |[]=>[]
 |v::r=>v.aG::V.aT r
end
def Dat.cells:Dat->List V
 | .lin x=>[.int x.c,.int x.n,.int x.t,.int x.f]
 | .Qp x=>[.int x.message,.int x.DC,.int x.bound.c,.int x.bound.n,.int x.bound.t,.int x.bound.f]
 | .rule x=>[.str x.name,.int x.kind,.int x.fr,.int x.to,.int x.jd,.int x.CQ,.row 0 false (.ints x.response),.row 7 false (.qp x.guards),.row 0 false (.ints x.ex),.row 0 false (.ints x.all),.int x.read,.int x.write,.row 0 false (.ints x.send),.int x.pos,.row 0 false (.ints x.left),.row 0 false (.ints x.right),.row 0 false (.ints x.parent),.int x.direction]
 | .dF x=>[.str x.name,.int x.topology,.row 0 false (.strs x.states),.row 0 false (.strs x.messages),.row 0 false (.strs x.values),.int x.fault,.row 5 false (.Az x.bU),.row 0 false (.ints x.initial),.row 0 false (.ints x.leader),.row 19 false (.rules x.rules)]
 | .cnt x=>[.row 0 false (.ints x.states),.int x.least]
 | .prop x=>[.str x.name,.int x.kind,.row 0 false (.ints x.start),.row 3 false (.cnts x.bad),.row 0 false (.ints x.adjacent),.row 0 false (.ints x.goal)]
 | .clause x=>[.row 0 false (.kZ x.each),.row 0 false (.ints x.values),.row 0 false (.ints x.some)]
 | .elem x=>[.int x.value,.row 0 false (.ints x.counts)]
theorem Dat.EM(d:Dat):d.aG= .agg (V.aT d.cells):=by cases d<;>rfl
theorem Dat.abo(d:Dat):d.aG.kd=d.kd:=by cases d<;>rfl
def Rw.len:Rw->Nat
 | .ints l=>l.length
 | .bools l=>l.length
 | .strs l=>l.length
 | .kZ l=>l.length
 | .Az l=>l.length
 | .qp l=>l.length
 | .rules l=>l.length
 | .cnts l=>l.length
 | .clauses l=>l.length
 | .elems l=>l.length
 | .nil=>0
def Rw.lenV:Rw->V
 | .ints l=>.int l.length
 | .bools l=>.int l.length
 | .strs l=>.int l.length
 | .kZ l=>.int l.length
 | .Az l=>.int l.length
 | .qp l=>.int l.length
 | .rules l=>.int l.length
 | .cnts l=>.int l.length
 | .clauses l=>.int l.length
 | .elems l=>.int l.length
 | .nil=>.int 0
def Rw.rng(n:Int):Rw->Prop
 | .ints l=>0<=n/\n<l.length
 | .bools l=>0<=n/\n<l.length
 | .strs l=>0<=n/\n<l.length
 | .kZ l=>0<=n/\n<l.length
 | .Az l=>0<=n/\n<l.length
 | .qp l=>0<=n/\n<l.length
 | .rules l=>0<=n/\n<l.length
 | .cnts l=>0<=n/\n<l.length
 | .clauses l=>0<=n/\n<l.length
 | .elems l=>0<=n/\n<l.length
 | .nil=>False
def Rw.lg(n:Int):Rw->Prop
 | .ints l=>0<=n/\n<=l.length
 | .bools l=>0<=n/\n<=l.length
 | .strs l=>0<=n/\n<=l.length
 | .kZ l=>0<=n/\n<=l.length
 | .Az l=>0<=n/\n<=l.length
 | .qp l=>0<=n/\n<=l.length
 | .rules l=>0<=n/\n<=l.length
 | .cnts l=>0<=n/\n<=l.length
 | .clauses l=>0<=n/\n<=l.length
 | .elems l=>0<=n/\n<=l.length
 | .nil=>n=0
def Rw.get(i:Nat):Rw->V
 | .ints l=>.int (l.getD i 0)
 | .bools l=>.bool (l.getD i false)
 | .strs l=>.str (l.getD i [])
 | .kZ l=>.row 0 false (.ints (l.getD i []))
 | .Az l=>.dat (.lin (l.getD i default))
 | .qp l=>.dat (.Qp (l.getD i default))
 | .rules l=>.dat (.rule (l.getD i default))
 | .cnts l=>.dat (.cnt (l.getD i default))
 | .clauses l=>.dat (.clause (l.getD i default))
 | .elems l=>.dat (.elem (l.getD i default))
 | .nil=>.raw .any
def Rw.take(i:Nat):Rw->Rw
 | .ints l=>.ints (l.take i)
 | .bools l=>.bools (l.take i)
 | .strs l=>.strs (l.take i)
 | .kZ l=>.kZ (l.take i)
 | .Az l=>.Az (l.take i)
 | .qp l=>.qp (l.take i)
 | .rules l=>.rules (l.take i)
 | .cnts l=>.cnts (l.take i)
 | .clauses l=>.clauses (l.take i)
 | .elems l=>.elems (l.take i)
 | .nil=>.nil
def Rw.drop(i:Nat):Rw->Rw
 | .ints l=>.ints (l.drop i)
 | .bools l=>.bools (l.drop i)
 | .strs l=>.strs (l.drop i)
 | .kZ l=>.kZ (l.drop i)
 | .Az l=>.Az (l.drop i)
 | .qp l=>.qp (l.drop i)
 | .rules l=>.rules (l.drop i)
 | .cnts l=>.cnts (l.drop i)
 | .clauses l=>.clauses (l.drop i)
 | .elems l=>.elems (l.drop i)
 | .nil=>.nil
def Rw.app:Rw->Rw->Option Rw
 |r,.nil=>some r
 | .nil,r=>some r
 | .ints a,.ints b=>some (.ints (a++b))
 | .bools a,.bools b=>some (.bools (a++b))
 | .strs a,.strs b=>some (.strs (a++b))
 | .kZ a,.kZ b=>some (.kZ (a++b))
 | .Az a,.Az b=>some (.Az (a++b))
 | .qp a,.qp b=>some (.qp (a++b))
 | .rules a,.rules b=>some (.rules (a++b))
 | .cnts a,.cnts b=>some (.cnts (a++b))
 | .clauses a,.clauses b=>some (.clauses (a++b))
 | .elems a,.elems b=>some (.elems (a++b))
 |_,_=>none
def Rw.kd:Rw->Nat
 | .ints _=>0
 | .bools _=>0
 | .strs _=>0
 | .kZ _=>0
 | .Az _=>5
 | .qp _=>7
 | .rules _=>19
 | .cnts _=>3
 | .clauses _=>4
 | .elems _=>3
 | .nil=>0
def V.one:V->Option Rw
 | .int n=>some (.ints [n])
 | .bool b=>some (.bools [b])
 | .str s=>some (.strs [s])
 | .row 0 false (.ints l)=>some (.kZ [l])
 | .dat (.lin x)=>some (.Az [x])
 | .dat (.Qp x)=>some (.qp [x])
 | .dat (.rule x)=>some (.rules [x])
 | .dat (.cnt x)=>some (.cnts [x])
 | .dat (.clause x)=>some (.clauses [x])
 | .dat (.elem x)=>some (.elems [x])
 | .agg [.int a,.row 0 false (.ints c)]=>some (.elems [⟨a,c⟩])
 | .agg [.row 0 false (.ints c),.int a]=>some (.cnts [⟨c,a⟩])
 | .agg [.row 0 false (.kZ e),.row 0 false (.ints v),.row 0 false (.ints s)]=>some (.clauses [⟨e,v,s⟩])
 |_=>none
def Rw.Xf:List V->Option Rw
 |[]=>some .nil
 |v::r=>match v.one,Rw.Xf r with
  |some a,some b=>a.app b
  |_,_=>none
inductive OV where
 |row (ty k:Nat) (r:Rw) (x:List V)
 |box (ty k:Nat) (v:V)
 |map (ty:Nat) (es:List (Int×List Bool)) (x:List (Int×V))
def yI(e:Int×List Bool):T:=.fK [.int e.1,.sl 0 false (e.2.map T.bool)]
def yH(e:Int×V):T:=.fK [.int e.1,e.2.aG]
def OV.aF:OV->Ob
 | .row ty k r x=>⟨ty,k,r.aT++V.aT x⟩
 | .box ty k v=>⟨ty,k,[v.aG]⟩
 | .map ty es x=>⟨ty,fF,es.map yI++x.map yH⟩
abbrev Fm:=List (Nat×V)
def Fm.get(i:Nat):Fm->Option V
 |[]=>none
 |(j,v)::r=>bif Nat.beq j i then some v else Fm.get i r
abbrev Hz:=List (Nat×Option OV)
def Hz.get(i:Nat):Hz->Option OV
 |[]=>none
 |(j,o)::r=>bif Nat.beq j i then o else Hz.get i r
def Hz.aj(h:Hz):Hp:=fun i=>(h.get i).map OV.aF
mutual
def AQ:T->V
 | .lit (.int .i64 n)=>.int n
 | .lit (.int .u8 n)=>.u8 n
 | .lit (.bool b)=>.bool b
 | .lit (.string b)=>.str b.data.toList
 | .sl k f []=>.row k f .nil
 | .agg l=>.agg (Xf l)
 | .fn f l=>.fn f (Xf l)
 |t=>.raw t
def Xf:List T->List V
 |[]=>[]
 |t::r=>AQ t::Xf r
end
def V.kd:V->Option Nat
 | .dat d=>some d.kd
 | .agg l=>some (l.length+1)
 | .cnd _ _=>none
 | .raw _=>none
 |_=>some 0
def V.cells:V->Option (List V)
 | .dat d=>some d.cells
 | .agg l=>some l
 | .cnd _ _=>none
 | .raw _=>none
 |v=>some [v]
def V.kS(h:Hz):V->Bool
 | .own i=>(h.get i).isSome
 | .ptr i _ _=>(h.get i).isSome
 | .qQ i _ _=>(h.get i).isSome
 | .cnd _ _=>false
 | .raw _=>false
 | .fK _=>false
 |_=>true
def V.part(off:Nat):Nat->V->Option V
 |0,.dat d=>d.cells[off]?
 |0,.agg l=>l[off]?
 |k+1,.dat (.Qp x)=>bif (Nat.beq off 2)&&(Nat.beq k 4) then some (.dat (.lin x.bound)) else none
 |k+1,.agg l=>some (.agg ((l.drop off).take k))
 |_,_=>none
inductive VC(p k:Prop):Prop where
 |mk:p->k->VC p k
inductive Fork(b:Bool)(x y:Prop):Prop where
 |mk:(b=true->x)->(b=false->y)->Fork b x y
inductive Sd where
 |no
 |yes (p:Prop)
def Sd.holds:Sd->Prop
 | .no=>True
 | .yes p=>p
def Sd.and:Sd->Sd->Sd
 | .no,b=>b
 |a,.no=>a
 | .yes p,.yes q=>.yes (p/\q)
def Sd.imp(t:Bool)(b:Bool):Sd->Sd
 | .no=>.no
 | .yes p=>.yes (t=b->p)
def Sd.vc(g:Option Bool)(k:Prop):Sd->Prop
 | .no=>k
 | .yes p=>match g with
  |none=>VC p k
  |some b=>VC (b=true->p) k
def V.bare:V->V×Sd
 | .cnd c v=>(v,.yes (c=true))
 |v=>(v,.no)
mutual
def V.free:V->Bool
 | .own _=>false
 | .ptr _ _ _=>false
 | .qQ _ _ _=>false
 | .cnd _ _=>false
 | .raw t=>t.free
 | .agg l=>V.dH l
 | .fn _ l=>V.dH l
 | .fK l=>V.dH l
 |_=>true
def V.dH:List V->Bool
 |[]=>true
 |v::r=>V.free v&&V.dH r
end
def AA(m:Fm):X->Option V
 | .t n=>m.get n
 | .c t=>some (AQ t)
def evL(m:Fm):List X->Option (List V)
 |[]=>some []
 |x::r=>match AA m x,evL m r with
  |some v,some l=>some (v::l)
  |_,_=>none
abbrev yN:=Option (V×Sd)
def L6(m:Fm)(x:X)(f:V->yN):yN :=
 match AA m x with
 |some v=>match v.bare with
  |(u,s)=>match f u with
   |some (r,s')=>some (r,s.and s')
   |none=>none
 |none=>none
def qz2(m:Fm)(x y:X)(f:V->V->yN):yN:=L6 m x fun u=>L6 m y fun v=>f u v
def okI(n:Int):Prop:= -9223372036854775808<=n/\n<9223372036854775808
def adJ(a b:Int):Int:=a.fdiv (2 ^ min b.toNat 64)
def abp(op:BinOp):V->V->yN
 | .int a,.int b=>match op with
  | .add=>some (.int (a+b),.yes (okI (a+b)))
  | .sub=>some (.int (a-b),.yes (okI (a-b)))
  | .mul=>some (.int (a*b),.yes (okI (a*b)))
  | .eql=>some (.bool (a==b),.no)
  | .neq=>some (.bool (a !=b),.no)
  | .lss=>some (.bool (decide (a<b)),.no)
  | .leq=>some (.bool (decide (a<=b)),.no)
  | .gtr=>some (.bool (decide (b<a)),.no)
  | .geq=>some (.bool (decide (b<=a)),.no)
  |_=>none
 | .u8 a,.u8 b=>match op with
  | .eql=>some (.bool (a==b),.no)
  | .neq=>some (.bool (a !=b),.no)
  | .lss=>some (.bool (decide (a<b)),.no)
  | .leq=>some (.bool (decide (a<=b)),.no)
  | .gtr=>some (.bool (decide (b<a)),.no)
  | .geq=>some (.bool (decide (b<=a)),.no)
  |_=>none
 | .str a,.str b=>match op with
  | .eql=>some (.bool (a==b),.no)
  | .neq=>some (.bool (!(a==b)),.no)
  | .add=>some (.str (a++b),.yes (a.length+b.length<=9223372036854775807))
  |_=>none
 | .raw (.lit (.int .u64 a)),.raw (.lit (.int .u64 b))=>match op with
  | .shr=>some (.raw (.lit (.int .u64 (adJ a b))),.yes (0<=b))
  | .and=>some (.raw (.lit (.int .u64 (aaR .u64 a b))),.no)
  | .eql=>some (.bool (a==b),.no)
  |_=>none
 |_,_=>none
def Ai:X->Bool
 | .c (.lit (.bool true))=>true
 |_=>false
def wW:X->Bool
 | .c (.lit (.bool false))=>true
 |_=>false
def aah(t:Bool)(xa xb:X):V->V->Option V
 | .bool x,.bool y=>bif Ai xa then some (.bool (t||y)) else bif wW xb then some (.bool (t&&x)) else some (.bool (bif t then x else y))
 | .int x,.int y=>some (.int (bif t then x else y))
 | .str x,.str y=>some (.str (bif t then x else y))
 |_,_=>none
def Xg(t:Bool)(xa xb:X)(a b:V×Sd):yN :=
 match a,b with
 |(a,sa),(b,sb)=>match aah t xa xb a b with
  |some v=>some (v,(sa.imp t true).and (sb.imp t false))
  |none=>none
def dP{α:Type}(b:Bool)(x:Option α):Option α:=bif b then x else none
def V.Qq(k:Nat):Option V->yN
 |some u=>some (.ref k u,.no)
 |none=>none
def V.F6:Option V->yN
 |some u=>some (u,.no)
 |none=>none
def faZ(h:Hz)(off k:Nat):V->yN
 | .ref kt v=>dP (!(Nat.beq kt 0)&&mQ (bg kt) off k) (V.Qq k (v.part off k))
 | .ptr i j o=>dP (h.get i).isSome (some (.ptr i j (o+off),.no))
 |_=>none
def fvZ(off k:Nat)(v:V):yN :=
 match v.kd with
 |some kt=>dP (!(Nat.beq kt 0)&&mQ (bg kt) off k) (V.F6 (v.part off k))
 |none=>none
def abq:List V->Nat->Option V
 |[],_=>none
 |v::_,0=>some v
 |_::r,n+1=>abq r n
def iaZ(h:Hz)(k:Nat):V->V->yN
 | .yF k' _ l,.int n=>match abq l n.toNat with
  |some v=>dP (Nat.beq k' k) (some (.ref k v,.yes (0<=n)))
  |none=>none
 | .row k' _ r,.int n=>dP (Nat.beq k' k) (some (.ref k (r.get n.toNat),.yes (r.rng n)))
 | .own o,.int n=>match h.get o with
  |some (.row _ k' r [])=>dP (Nat.beq k' k) (some (.ptr o n.toNat 0,.yes (r.rng n)))
  |_=>none
 | .qQ o lo hi,.int n=>match h.get o with
  |some (.row _ k' _ [])=>dP (Nat.beq k' k) (some (.ptr o (lo+n.toNat) 0,.yes (0<=n/\n<(hi-lo:Nat))))
  |_=>none
 |_,_=>none
def chZ:V->V->yN
 | .str s,.int n=>some (.u8 (s.getD n.toNat 0).toNat,.yes (0<=n/\n<s.length))
 |_,_=>none
def ldB(k j off ko:Nat)(v:V):yN :=
 bif Nat.beq j 0 then(bif Nat.beq off 0&&Nat.beq ko k then some (v,.no) else dP (!(Nat.beq ko 0)&&mQ (bg ko) off k) (V.F6 (v.part off k))) else none
def ldR(k j off ko:Nat)(r:Rw):yN :=
 bif Nat.beq off 0&&Nat.beq ko k then some (r.get j,.yes (r.rng j)) else
  match (r.get j).part off k with
  |some u=>dP (!(Nat.beq ko 0)&&mQ (bg ko) off k) (some (u,.yes (r.rng j)))
  |none=>none
def ldZ(h:Hz)(k:Nat):V->yN
 | .ref k' v=>dP (Nat.beq k' k&&Nat.blt 0 (bg k)) (some (v,.no))
 | .ptr i j off=>match h.get i with
  |some (.box _ ko v)=>ldB k j off ko v
  |some (.row _ ko r [])=>ldR k j off ko r
  |_=>none
 |_=>none
def ncZ(h:Hz):V->yN
 | .ref k v=>some (.ref k v,.no)
 | .ptr i j o=>dP (h.get i).isSome (some (.ptr i j o,.no))
 | .fn f l=>some (.fn f l,.no)
 |_=>none
def abr(h:Hz)(str:Bool):V->yN
 | .row _ _ r=>dP (!str) (some (r.lenV,.no))
 | .yF _ _ l=>dP (!str) (some (.int l.length,.no))
 | .str s=>dP str (some (.int s.length,.no))
 | .own o=>match h.get o with
  |some (.row _ k r x)=>dP (!str&& !(Nat.beq k fF)) (match x with|[]=>some (r.lenV,.no)|x=>some (.int (r.len+x.length),.no))
  |_=>none
 | .qQ o lo hi=>dP (!str&&(h.get o).isSome) (some (.int (hi-lo:Nat),.no))
 |_=>none
def mxZ:V->V->yN
 | .int a,.int b=>some (.int (max a b),.no)
 |_,_=>none
def mnZ:V->V->yN
 | .int a,.int b=>some (.int (min a b),.no)
 |_,_=>none
def Ba(m:Fm):List X->Option (List V×Sd)
 |[]=>some ([],.no)
 |x::r=>match AA m x,Ba m r with
  |some v,some (l,s)=>match v.bare with|(u,s')=>some (u::l,s'.and s)
  |_,_=>none
def Ry:List (Nat×Nat×X)->List V->List V->Option (List V)
 |[],[],z=>some z
 |(off,n,_)::ps,v::vs,z=>match v.cells with
  |some c=>dP (Nat.beq c.length n&&Nat.ble (off+n) z.length) (Ry ps vs (z.take off++c++z.drop (off+n)))
  |none=>none
 |_,_,_=>none
def Bc(h:Hz):List V->Bool
 |[]=>true
 |v::r=>v.kS h&&Bc h r
def mkZ(m:Fm)(h:Hz)(z:List T)(ps:List (Nat×Nat×X)):yN :=
 match Ba m (ps.map fun p=>p.2.2) with
 |some (vs,s)=>match Ry ps vs (Xf z) with
  |some l=>dP (Bc h vs) (some (.agg l,s))
  |none=>none
 |none=>none
def Jh(k:Nat):List V->Bool
 |[]=>true
 |v::r=>(match v.kd with|some k'=>Nat.beq k' k|none=>false)&&Jh k r
def Xh(n:Nat):List (Nat×X)->List V->List V->Option (List V)
 |[],[],z=>some z
 |(i,_)::ps,v::vs,z=>dP (Nat.blt i n) (Xh n ps vs (z.set i v))
 |_,_,_=>none
def msZ(m:Fm)(h:Hz)(k:Nat)(z:T)(n:Nat)(ps:List (Nat×X)):yN :=
 match Ba m (ps.map fun p=>p.2) with
 |some (vs,s)=>match Xh n ps vs (List.replicate n (AQ z)) with
  |some l=>dP ((z.kd==k)&&z.free&&Jh k vs&&Bc h vs&&V.dH vs&&Nat.ble (n*bg k) 16777216&&Nat.blt 0 (bg k))
    (match Rw.Xf l with
    |some r=>some (.row k true r,s)
    |none=>some (.yF k true l,s))
  |none=>none
 |none=>none
def kOk(k k':Nat):Rw->Bool
 | .nil=>true
 |_=>Nat.beq k' k
def Iy(m:Fm):Option X->Option (Option V×Sd)
 |none=>some (none,.no)
 |some x=>match AA m x with
  |some v=>match v.bare with|(u,s)=>some (some u,s)
  |none=>none
def Xi(k k':Nat)(f:Bool)(r:Rw):Option V->Option V->Option V->yN
 |none,none,none=>dP (kOk k k' r) (some (.row k f r,.no))
 |some (.int a),none,none=>dP (kOk k k' r) (some (.row k f (r.drop a.toNat),.yes (r.lg a)))
 |none,some (.int b),none=>dP (kOk k k' r) (some (.row k (f&&decide (b=r.len)) (r.take b.toNat),.yes (r.lg b)))
 |some (.int a),some (.int b),none=>dP (kOk k k' r) (some (.row k false ((r.take b.toNat).drop a.toNat),.yes (0<=a/\a<=b/\r.lg b)))
 |none,some (.int b),some (.int c)=>dP (kOk k k' r) (some (.row k (decide (b=c)) (r.take b.toNat),.yes (0<=b/\b<=c/\r.lg c)))
 |_,_,_=>none
def Xj(k i ko:Nat)(r:Rw):Option V->Option V->Option V->yN
 |some (.int a),none,none=>dP (Nat.beq ko k) (some (.qQ i a.toNat r.len,.yes (r.lg a)))
 |none,some (.int b),none=>dP (Nat.beq ko k) (some (.qQ i 0 b.toNat,.yes (r.lg b)))
 |some (.int a),some (.int b),none=>dP (Nat.beq ko k) (some (.qQ i a.toNat b.toNat,.yes (0<=a/\a<=b/\r.lg b)))
 |_,_,_=>none
def Qr(k i ko:Nat)(r:Rw)(xs:List V):Option V->Option V->Option V->yN
 |none,some (.int b),none=>dP (Nat.beq ko k) (some (.qQ i 0 b.toNat,.yes (r.lg b)))
 |lo,hi,mx=>match xs with|[]=>Xj k i ko r lo hi mx|_=>none
def slZ(h:Hz)(x:Bool)(k:Nat)(v:V)(lo hi mx:Option V):yN :=
 match v with
 | .row k' f r=>Xi k k' f r lo hi mx
 | .own i=>bif x then(match h.get i with
  |some (.row _ ko r xs)=>Qr k i ko r xs lo hi mx
  |_=>none) else none
 |_=>none
def slX(m:Fm)(h:Hz)(b:Bool)(k:Nat)(x:X)(lo hi mx:Option X):yN :=
 L6 m x fun v=>match Iy m lo,Iy m hi,Iy m mx with
  |some (lo,s1),some (hi,s2),some (mx,s3)=>match slZ h b k v lo hi mx with
   |some (u,s)=>some (u,s1.and (s2.and (s3.and s)))
   |none=>none
  |_,_,_=>none
def ssZ(s:Str):Option V->Option V->yN
 |some (.int a),none=>some (.str (s.drop a.toNat),.yes (0<=a/\a<=s.length))
 |none,some (.int b)=>some (.str (s.take b.toNat),.yes (0<=b/\b<=s.length))
 |some (.int a),some (.int b)=>some (.str ((s.take b.toNat).drop a.toNat),.yes (0<=a/\a<=b/\b<=s.length))
 |_,_=>none
def ssX(m:Fm)(x:X)(lo hi:Option X):yN :=
 L6 m x fun v=>match v,Iy m lo,Iy m hi with
  | .str s,some (lo,s1),some (hi,s2)=>match ssZ s lo hi with
   |some (u,s)=>some (u,s1.and (s2.and s))
   |none=>none
  |_,_,_=>none
def exZ(i:Nat):V->yN
 | .fK l=>match l[i]? with|some v=>some (v,.no)|none=>none
 |_=>none
def abt(ne:Bool)(n:Nat):V->V->yN
 | .dat (.lin x),.dat (.lin y)=>dP (Nat.beq n 4) (some (.bool (bif ne then !(x==y) else x==y),.no))
 | .dat (.Qp x),.dat (.Qp y)=>dP (Nat.beq n 6) (some (.bool (bif ne then !(x==y) else x==y),.no))
 |_,_=>none
def wz(n:Int):List (Int×List Bool)->Option (List Bool)
 |[]=>none
 |(m,v)::r=>bif n==m then some v else wz n r
def mfZ(m:Fm)(h:Hz)(f:FuncId)(cap:List X):yN :=
 match Ba m cap with
 |some (l,s)=>dP (Bc h l&&Jh 0 l&&Nat.blt f 4096) (some (.fn f l,s))
 |none=>none
def mbZ(f:FuncId):V->yN
 | .agg l=>dP (Nat.blt f 4096) (some (.fn (f+4096) l,.no))
 | .dat d=>dP (Nat.blt f 4096) (some (.fn (f+4096) d.cells,.no))
 |_=>none
def abu:V->yN
 | .row _ true r=>some (r.lenV,.no)
 |_=>none
def qz(m:Fm)(h:Hz):nY->yN
 | .mv x=>match AA m x with|some v=>some (v,.no)|none=>none
 | .pick c a b=>L6 m c fun c=>match c,AA m a,AA m b with
  | .bool t,some va,some vb=>Xg t a b va.bare vb.bare
  |_,_,_=>none
 | .bin op x y=>qz2 m x y (abp op)
 | .bb ne x y=>qz2 m x y fun x y=>match x,y with
  | .bool a,.bool b=>some (.bool (bif ne then !(a==b) else a==b),.no)
  |_,_=>none
 | .not x=>L6 m x fun v=>match v with| .bool b=>some (.bool !b,.no)|_=>none
 | .conv .i64 x=>L6 m x fun v=>match v with
  | .int n=>some (.int n,.yes (okI n))
  | .u8 n=>some (.int n,.yes (okI n))
  | .raw (.lit (.int .u64 n))=>some (.int n,.yes (okI n))
  |_=>none
 | .conv .u64 x=>L6 m x fun v=>match v with
  | .int n=>some (.raw (.lit (.int .u64 n)),.yes (0<=n/\n<18446744073709551616))
  |_=>none
 | .fa off k x=>L6 m x (faZ h off k)
 | .fv off k x=>L6 m x (fvZ off k)
 | .ia k x i=>qz2 m x i (iaZ h k)
 | .ch x i=>qz2 m x i chZ
 | .ld k x=>L6 m x (ldZ h k)
 | .nc x=>L6 m x (ncZ h)
 | .len s x=>L6 m x (abr h s)
 | .mx x y=>qz2 m x y mxZ
 | .mn x y=>qz2 m x y mnZ
 | .mk z ps=>mkZ m h z ps
 | .ms _ k z n ps=>msZ m h k z n ps
 | .sl k x lo hi mx=>slX m h false k x lo hi mx
 | .OT k x lo hi mx=>slX m h true k x lo hi mx
 | .ss x lo hi=>ssX m x lo hi
 | .ex x i=>L6 m x (exZ i)
 | .mf f cap=>mfZ m h f cap
 | .eqs ne n x y=>qz2 m x y (abt ne n)
 | .KQ x=>L6 m x abu
 | .mb f x=>L6 m x (mbZ f)
 |_=>none
theorem aai(b:ByteArray):eS b.data.toList= .lit (.string b):=by
 unfold eS bs; simp
mutual
theorem x9:(t:T)->(AQ t).aG=t
 | .lit v=>by
  cases v with
  |int k n=>cases k<;>simp[AQ,V.aG]
  |bool b=>simp[AQ,V.aG]
  |string b=>simp only[AQ,V.aG]; exact aai b
  |_=>simp[AQ,V.aG]
 | .agg l=>by simp only[AQ,V.aG]; rw[Aj l]
 | .sl k f l=>by cases l<;>simp[AQ,V.aG,Rw.aT]
 | .ref k t=>by simp[AQ,V.aG]
 | .own i=>by simp[AQ,V.aG]
 | .ptr i j k=>by simp[AQ,V.aG]
 | .qQ i j k=>by simp[AQ,V.aG]
 | .fn f l=>by simp only[AQ,V.aG]; rw[Aj l]
 | .fK l=>by simp[AQ,V.aG]
 | .any=>by simp[AQ,V.aG]
theorem Aj:(l:List T)->V.aT (Xf l)=l
 |[]=>rfl
 |t::r=>by simp only[Xf,V.aT]; rw[x9 t,Aj r]
end
theorem nZ(l:List V):V.aT l=l.map V.aG:=by
 induction l with
 |nil=>rfl
 |cons v r ih=>simp[V.aT,ih]
theorem gu(l:List V):(V.aT l).length=l.length:=by rw[nZ]; simp
theorem yc(a b:List V):V.aT (a++b)=V.aT a++V.aT b:=by simp[nZ]
theorem Iz(a:List V)(n:Nat):V.aT (a.take n)=(V.aT a).take n:=by simp[nZ]
theorem IB(a:List V)(n:Nat):V.aT (a.drop n)=(V.aT a).drop n:=by simp[nZ]
def Rp(m:Fm)(fr:List T):Prop:= ∀ i v,m.get i=some v->fr[i]? =some v.aG
theorem Rp.getD{m:Fm}{fr:List T}(R:Rp m fr){i:Nat}{v:V}{d:T}(h:m.get i=some v):fr.getD i d=v.aG:=by
 rw[List.getD_eq_getElem?_getD,R i v h]; rfl
theorem Rp.ev{m:Fm}{s:AS}(R:Rp m s.fr){x:X}{v:V}(h:AA m x=some v):s.ev x=v.aG:=by
 cases x with
 |t n=>exact R.getD h
 |c t=>simp only[AA,Option.some.injEq] at h; subst h; exact(x9 t).symm
theorem jB{v u:V}{s:Sd}(h:v.bare=(u,s))(hs:s.holds):v.aG=u.aG:=by
 unfold V.bare at h
 split at h
 ·cases h; simp only[Sd.holds] at hs; simp[V.aG,hs]
 ·cases h; rfl
theorem Sd.nI{a b:Sd}:(a.and b).holds↔a.holds/\b.holds:=by cases a<;>cases b<;>simp[Sd.and,Sd.holds]
theorem Sd.J6{t b:Bool}{s:Sd}:(s.imp t b).holds↔(t=b->s.holds):=by cases s<;>simp[Sd.imp,Sd.holds]
theorem kG{m:Fm}{s:AS}(R:Rp m s.fr){x:X}{f:V->yN}{r:V}{sd:Sd}(h:L6 m x f=some (r,sd))(hs:sd.holds): ∃ u s',f u=some (r,s')/\s'.holds/\s.ev x=u.aG:=by
 unfold L6 at h
 split at h
 ·rename_i v hv
  split at h
  rename_i u s0 hb
  split at h
  ·rename_i r' s' hf
   cases h
   rw[Sd.nI] at hs
   exact⟨u,s',hf,hs.2,by rw[R.ev hv,jB hb hs.1]⟩
  ·cases h
 ·cases h
theorem yg{m:Fm}{s:AS}(R:Rp m s.fr){x y:X}{f:V->V->yN}{r:V}{sd:Sd}(h:qz2 m x y f=some (r,sd))(hs:sd.holds): ∃ u v s',f u v=some (r,s')/\s'.holds/\s.ev x=u.aG/\s.ev y=v.aG:=by
 obtain⟨u,s',h1,h2,h3⟩:=kG R h hs
 obtain⟨v,s'',h4,h5,h6⟩:=kG R h1 h2
 exact⟨u,v,s'',h4,h5,h3,h6⟩
theorem aS{α:Type}{b:Bool}{x:Option α}{y:α}(h:dP b x=some y):b=true/\x=some y:=by
 cases b<;>simp[dP] at h; exact⟨rfl,h⟩
theorem acS{n:Int}(h1:0<=n)(h2:n<18446744073709551616):IntKind.u64.wrap n=n:=by
 have e:IntKind.u64.wrap n=(if(false&&decide (n % 18446744073709551616>=9223372036854775808))=true then n % 18446744073709551616-18446744073709551616 else n % 18446744073709551616):=rfl
 rw[e]
 simp only[Bool.false_and,Bool.false_eq_true,if_false]
 omega
theorem Rz{n:Int}(h:okI n):IntKind.i64.wrap n=n:=wrap64 h.1 h.2
theorem Rw.eU(r:Rw):r.aT.length=r.len:=by cases r<;>simp[Rw.aT,Rw.len]
theorem Rw.LG(r:Rw):r.lenV= .int r.len:=by cases r<;>rfl
theorem Rw.DF{n:Int}{r:Rw}:r.rng n↔(0<=n/\n<r.len):=by cases r<;>simp[Rw.rng,Rw.len]<;>omega
theorem Rw.rZ{n:Int}{r:Rw}:r.lg n↔(0<=n/\n<=r.len):=by cases r<;>simp[Rw.lg,Rw.len]<;>omega
theorem getD_map'{α:Type}{f:α->T}{l:List α}{i:Nat}{d:α}(h:i<l.length):(l.map f).getD i .any=f (l.getD i d):=by
 simp[List.getD_eq_getElem?_getD,h]
theorem Rw.LH{r:Rw}{i:Nat}(h:i<r.len):r.aT.getD i .any=(r.get i).aG:=by
 cases r<;>simp only[Rw.len] at h<;>simp only[Rw.aT,Rw.get,V.aG,Dat.aG,Rw.aT]<;>first|exact getD_map' h|omega
theorem Rw.DI(r:Rw)(n:Nat):(r.take n).aT=r.aT.take n:=by cases r<;>simp[Rw.take,Rw.aT]
theorem Rw.N9(r:Rw)(n:Nat):(r.drop n).aT=r.aT.drop n:=by cases r<;>simp[Rw.drop,Rw.aT]
theorem Rw.LJ{a b c:Rw}(h:a.app b=some c):c.aT=a.aT++b.aT:=by
 unfold Rw.app at h
 split at h<;>first|(cases h; done)|(cases h; simp[Rw.aT])
theorem V.Zi{v:V}{r:Rw}(h:v.one=some r):r.aT=[v.aG]:=by
 unfold V.one at h
 split at h<;>first|(cases h; done)|(cases h; simp[Rw.aT,V.aG,V.aT,Dat.aG,sQ,Xe,nX])
theorem Rw.Aj: ∀ {l:List V} {r:Rw},Rw.Xf l=some r->r.aT=V.aT l:=by
 intro l
 induction l with
 |nil=>intro r h; cases h; rfl
 |cons v l ih =>
  intro r h
  simp only[Rw.Xf] at h
  split at h
  ·rename_i a b h1 h2
   rw[Rw.LJ h,V.Zi h1,ih h2]; rfl
  ·cases h
theorem V.LK{v:V}{k:Nat}(h:v.kd=some k):v.aG.kd=k:=by
 cases v with
 |dat d=>cases h; exact Dat.abo d
 |_=>simp only[V.kd,Option.some.injEq,reduceCtorEq] at h<;>subst h<;>simp[V.aG,T.kd,eS,gu]
theorem V.EN{v:V}{l:List V}(h:v.cells=some l):v.aG.cells=V.aT l:=by
 cases v<;>simp only[V.cells,Option.some.injEq,reduceCtorEq] at h<;>subst h<;>simp[V.aG,Dat.EM,T.cells,eS,V.aT]
theorem Hz.wX{h:Hz}{i:Nat}:(h.aj i).isSome=(h.get i).isSome:=by simp[Hz.aj]
theorem V.wY{h:Hz}{v:V}(hv:v.kS h=true):v.aG.kS h.aj=true:=by
 cases v<;>simp only[V.kS,Bool.false_eq_true] at hv<;>simp[V.aG,T.kS,T.wH,eS,Value.oneCell',Hz.wX,hv]
 rename_i d
 cases d<;>rfl
theorem V.Xk{h:Hz}{v:V}(hv:v.kS h=true)(hk:v.kd=some 0):v.aG.wH h.aj=true:=by
 cases v<;>simp only[V.kS,Bool.false_eq_true] at hv<;>simp only[V.kd,Option.some.injEq,Nat.succ_ne_zero] at hk<;>simp[V.aG,T.wH,eS,Value.oneCell',Hz.wX,hv]
 rename_i d
 cases d<;>cases hk
theorem Dat.free(d:Dat):d.aG.free=true:=by cases d<;>rfl
mutual
theorem V.mG:(v:V)->v.free=true->v.aG.free=true
 | .int _,_=>by simp[V.aG,T.free]
 | .bool _,_=>by simp[V.aG,T.free]
 | .u8 _,_=>by simp[V.aG,T.free]
 | .str _,_=>by simp[V.aG,T.free,eS]
 | .dat d,_=>by simp only[V.aG]; exact d.free
 | .agg l,h=>by simp only[V.aG,T.free]; simp only[V.free] at h; exact V.iq l h
 | .row _ _ _,_=>by simp[V.aG,T.free]
 | .yF _ _ _,_=>by simp[V.aG,T.free]
 | .ref _ _,_=>by simp[V.aG,T.free]
 | .own _,h=>by simp[V.free] at h
 | .ptr _ _ _,h=>by simp[V.free] at h
 | .qQ _ _ _,h=>by simp[V.free] at h
 | .fn _ l,h=>by simp only[V.aG,T.free]; simp only[V.free] at h; exact V.iq l h
 | .fK l,h=>by simp only[V.aG,T.free]; simp only[V.free] at h; exact V.iq l h
 | .cnd _ _,h=>by simp[V.free] at h
 | .raw t,h=>by simp only[V.aG]; simpa only[V.free] using h
theorem V.iq:(l:List V)->V.dH l=true->T.dH (V.aT l)=true
 |[],_=>by simp[V.aT,T.dH]
 |v::r,h=>by
  simp only[V.dH,Bool.and_eq_true] at h
  simp only[V.aT,T.dH,Bool.and_eq_true]
  exact⟨V.mG v h.1,V.iq r h.2⟩
end
theorem zD{l:List V}{i:Nat}{u:V}(h:l[i]? =some u):(V.aT l).getD i .any=u.aG:=by
 rw[nZ,List.getD_eq_getElem?_getD,List.getElem?_map,h]; rfl
theorem V.DJ{off k:Nat}{v u:V}(h:v.part off k=some u):v.aG.part off k=u.aG:=by
 unfold V.part at h
 split at h
 ·simp only[V.aG,Dat.EM,T.part,T.cells]; exact zD h
 ·simp only[V.aG,T.part,T.cells]; exact zD h
 ·rename_i k x
  cases hb:(Nat.beq off 2)&&(Nat.beq k 4) with
  |false=>rw[hb] at h; cases h
  |true =>
   rw[hb] at h
   simp only[Bool.and_eq_true,Nat.beq_eq] at hb
   obtain⟨rfl,rfl⟩:=hb
   cases h; rfl
 ·cases h
  simp only[V.aG,T.part,T.cells,Iz,IB]
 ·cases h
theorem jh{a b:Nat}(h:Nat.beq a b=true):a=b:=Nat.eq_of_beq_eq_true h
section
variable {m:Fm} {h:Hz} {s:AS}
def Ok(s:AS)(op:nY)(v:V):Prop:=qc s op/\qt s op=v.aG
theorem Zj{op:BinOp}{x y:X}{u v r:V}{sd:Sd}(q:abp op u v=some (r,sd))(hs:sd.holds)(h1:s.ev x=u.aG)(h2:s.ev y=v.aG):Ok s (.bin op x y) r:=by
 unfold Ok; simp only[qc,qt]; rw[h1,h2]
 unfold abp at q
 split at q
 ·rename_i a b
  split at q<;>first|(cases q; done)|(cases q; simp only[Sd.holds] at hs; simp[V.aG,Dh,Z7,Rz,hs])
 ·split at q<;>first|(cases q; done)|(cases q; simp[V.aG,Dh,Z7])
 ·split at q
  ·cases q; simp[V.aG,Dh,eS,Ag]
  ·cases q; simp[V.aG,Dh,eS,Ag]
  ·rename_i a b _
   cases q
   simp only[Sd.holds] at hs
   have hsz:(((bs a).size+(bs b).size:Nat):Int)<=9223372036854775807:=by
    have e1:(bs a).size=a.length:=by simp[bs,ByteArray.size]
    have e2:(bs b).size=b.length:=by simp[bs,ByteArray.size]
    rw[e1,e2]; exact Int.ofNat_le.2 hs
   have hap:bs a++bs b=bs (a++b):=by apply ByteArray.ext; simp[bs]
   have hsz2:((bs a).size:Int)+(bs b).size<=9223372036854775807:=by omega
   simp[V.aG,Dh,eS,hsz2,hap]
  ·cases q
 ·split at q
  ·cases q
   simp only[Sd.holds] at hs
   refine⟨?_,?_⟩
   ·simp only[V.aG,Dh,hs,decide_true,cond_true,Option.isSome]
   ·simp only[V.aG,Dh,hs,decide_true,cond_true]; rfl
  ·cases q; simp[V.aG,Dh,Z7]
  ·cases q; simp[V.aG,Dh,Z7]
  ·cases q
 ·cases q
theorem Qs{x:X}(hx:Ai x=true):x= .c (.lit (.bool true)):=by
 unfold Ai at hx
 split at hx
 ·rfl
 ·cases hx
theorem Oa{x:X}(hx:wW x=true):x= .c (.lit (.bool false)):=by
 unfold wW at hx
 split at hx
 ·rfl
 ·cases hx
theorem Xl{c xa xb:X}{t:Bool}{va vb r:V}{sd:Sd}(R:Rp m s.fr)(ha:AA m xa=some va)(hb:AA m xb=some vb)(q:Xg t xa xb va.bare vb.bare=some (r,sd))(hs:sd.holds)(hc:s.ev c= .lit (.bool t)):Ok s (.pick c xa xb) r:=by
 unfold Ok; simp only[qc,qt]; rw[hc]
 refine⟨rfl,?_⟩
 unfold Xg at q
 split at q
 rename_i a sa b sb ea eb
 split at q
 ·rename_i v hp
  cases q
  rw[Sd.nI,Sd.J6,Sd.J6] at hs
  have h1:t=true->s.ev xa=a.aG:=fun e=>by rw[R.ev ha,jB ea (hs.1 e)]
  have h2:t=false->s.ev xb=b.aG:=fun e=>by rw[R.ev hb,jB eb (hs.2 e)]
  unfold aah at hp
  split at hp
  ·rename_i x y
   have hp':r= .bool (bif Ai xa then t||y else bif wW xb then t&&x else bif t then x else y):=by
    cases e1:Ai xa<;>cases e2:wW xb<;>simp[e1,e2] at hp ⊢ <;>exact hp.symm
   subst hp'
   have key:zh (.lit (.bool t)) (s.ev xa) (s.ev xb)= .lit (.bool (bif t then x else y)):=by
    cases t with
    |true =>
     rw[h1 rfl]; simp only[V.aG,zh]
     split<;>simp_all
    |false =>
     rw[h2 rfl]; simp only[V.aG,zh]
     split<;>simp_all
   rw[key]
   simp only[V.aG]
   congr 2
   cases e1:Ai xa with
   |true =>
    have:=Qs e1; subst this
    simp only[AA,Option.some.injEq] at ha; subst ha
    simp only[AQ,V.bare,Prod.mk.injEq] at ea
    have:=ea.1; cases this
    cases t<;>rfl
   |false =>
    cases e2:wW xb with
    |true =>
     have:=Oa e2; subst this
     simp only[AA,Option.some.injEq] at hb; subst hb
     simp only[AQ,V.bare,Prod.mk.injEq] at eb
     have:=eb.1; cases this
     cases t<;>simp
    |false=>rfl
  ·cases hp
   cases t with
   |true=>rw[h1 rfl]; simp only[V.aG,zh,cond_true]
   |false=>rw[h2 rfl]; simp only[V.aG,zh,cond_false]; split<;>simp_all
  ·cases hp
   cases t with
   |true=>rw[h1 rfl]; simp only[V.aG,zh,cond_true,eS]
   |false=>rw[h2 rfl]; simp only[V.aG,zh,cond_false,eS]; split<;>simp_all
  ·cases hp
 ·cases q
theorem Qu{k:Nat}{p:Option V}{r:V}{sd:Sd}(q:V.Qq k p=some (r,sd)): ∃ u,p=some u/\r= .ref k u:=by
 unfold V.Qq at q
 split at q
 ·cases q; exact⟨_,rfl,rfl⟩
 ·cases q
theorem Fj{p:Option V}{r:V}{sd:Sd}(q:V.F6 p=some (r,sd)):p=some r:=by
 unfold V.F6 at q
 split at q
 ·cases q; rfl
 ·cases q
theorem Xm{k:Nat}(h:(!(Nat.beq k 0))=true):(!(k==0))=true:=by
 cases k<;>simp_all
theorem abv(hh:s.hp=h.aj){off k:Nat}{x:X}{u r:V}{sd:Sd}(q:faZ h off k u=some (r,sd))(h1:s.ev x=u.aG):Ok s (.fa off k x) r:=by
 unfold Ok; simp only[qc,qt]; rw[h1]
 unfold faZ at q
 split at q
 ·obtain⟨g,q⟩:=aS q
  obtain⟨u,e,rfl⟩:=Qu q
  simp only[Bool.and_eq_true] at g
  simp only[V.aG,V.DJ e,Bool.and_eq_true]
  exact⟨⟨Xm g.1,g.2⟩,trivial⟩
 ·obtain⟨g,q⟩:=aS q
  cases q
  simp only[V.aG,hh,Hz.wX,g,and_self]
 ·cases q
theorem abw{off k:Nat}{x:X}{u r:V}{sd:Sd}(q:fvZ off k u=some (r,sd))(h1:s.ev x=u.aG):Ok s (.fv off k x) r:=by
 unfold Ok; simp only[qc,qt]; rw[h1]
 unfold fvZ at q
 split at q
 ·rename_i kt hk
  obtain⟨g,q⟩:=aS q
  rw[V.LK hk,V.DJ (Fj q)]
  simp only[Bool.and_eq_true] at g ⊢
  exact⟨⟨Xm g.1,g.2⟩,trivial⟩
 ·cases q
theorem aH{i:Nat}{o:OV}(e:h.get i=some o):h.aj i=some o.aF:=by simp[Hz.aj,e]
theorem Zk: ∀ {l:List V} {i:Nat} {v:V},abq l i=some v->i<l.length/\(V.aT l).getD i .any=v.aG:=by
 intro l
 induction l with
 |nil=>intro i v h; cases h
 |cons u r ih =>
  intro i v h
  cases i with
  |zero=>cases h; exact⟨Nat.succ_pos _,rfl⟩
  |succ i =>
   obtain⟨a,b⟩:=ih h
   exact⟨Nat.succ_lt_succ a,by simpa [V.aT] using b⟩
theorem abx(hh:s.hp=h.aj){k:Nat}{x i:X}{u v r:V}{sd:Sd}(q:iaZ h k u v=some (r,sd))(hs:sd.holds)(h1:s.ev x=u.aG)(h2:s.ev i=v.aG):Ok s (.ia k x i) r:=by
 unfold Ok; simp only[qc,qt]; rw[h1,h2]
 unfold iaZ at q
 split at q
 ·rename_i k' f l n
  split at q
  ·rename_i v hv
   obtain⟨g,q⟩:=aS q
   cases q
   have:=jh g; subst this
   simp only[Sd.holds] at hs
   obtain⟨a,b⟩:=Zk hv
   simp only[V.aG,YU,gu]
   exact⟨⟨trivial,hs,by omega⟩,by rw[b]⟩
  ·cases q
 ·rename_i k' f w n
  obtain⟨g,q⟩:=aS q
  cases q
  have:=jh g; subst this
  simp only[Sd.holds,Rw.DF] at hs
  simp only[V.aG,YU,Rw.eU]
  refine⟨⟨trivial,hs⟩,?_⟩
  rw[Rw.LH (by omega)]
 ·rename_i o n
  split at q
  ·rename_i ty k' w e
   obtain⟨g,q⟩:=aS q
   cases q
   have:=jh g; subst this
   simp only[Sd.holds,Rw.DF] at hs
   simp only[V.aG,hh,aH e,OV.aF,V.aT,List.append_nil,YU,Rw.eU]
   exact⟨⟨trivial,hs⟩,trivial⟩
  ·cases q
 ·rename_i o lo hi n
  split at q
  ·rename_i ty k' w e
   obtain⟨g,q⟩:=aS q
   cases q
   have:=jh g; subst this
   simp only[Sd.holds] at hs
   simp only[V.aG,hh,aH e,OV.aF,YU]
   exact⟨⟨trivial,hs⟩,trivial⟩
  ·cases q
 ·cases q
theorem aby{x i:X}{u v r:V}{sd:Sd}(q:chZ u v=some (r,sd))(hs:sd.holds)(h1:s.ev x=u.aG)(h2:s.ev i=v.aG):Ok s (.ch x i) r:=by
 unfold Ok; simp only[qc,qt]; rw[h1,h2]
 unfold chZ at q
 split at q
 ·cases q
  simp only[Sd.holds] at hs
  simp only[V.aG,eS,YU,Ah,abl]
  exact⟨hs,trivial⟩
 ·cases q
theorem Xn(hh:s.hp=h.aj){k:Nat}{x:X}{u r:V}{sd:Sd}(q:ldZ h k u=some (r,sd))(hs:sd.holds)(h1:s.ev x=u.aG):Ok s (.ld k x) r:=by
 unfold Ok; simp only[qc,qt]; rw[h1]
 unfold ldZ at q
 split at q
 ·obtain⟨g,q⟩:=aS q
  cases q
  simp only[Bool.and_eq_true] at g
  have:=jh g.1; subst this
  simp[V.aG,g.2]
 ·rename_i i j off
  split at q
  ·rename_i ty ko v e
   simp only[V.aG,hh,aH e,OV.aF]
   unfold ldB at q
   cases hj:Nat.beq j 0 with
   |false=>rw[hj] at q; cases q
   |true =>
    have:=jh hj; subst this
    rw[hj] at q
    simp only[cond_true] at q
    cases hb:(Nat.beq off 0&&Nat.beq ko k) with
    |true =>
     rw[hb] at q; cases q
     simp only[Bool.and_eq_true] at hb
     have e1:=jh hb.1; have e2:=jh hb.2; subst e1; subst e2
     simp
    |false =>
     rw[hb] at q
     simp only[cond_false] at q
     obtain⟨g,q⟩:=aS q
     have hb':(off==0&&ko==k)=false:=by
      rw[Bool.and_eq_false_iff] at hb ⊢
      rcases hb with hb|hb
      ·left; simpa using Nat.ne_of_beq_eq_false hb
      ·right; simpa using Nat.ne_of_beq_eq_false hb
     simp only[hb',cond_false,Bool.false_or,List.getD_cons_zero,V.DJ (Fj q),List.length_cons,List.length_nil]
     simp only[Bool.and_eq_true] at g ⊢
     exact⟨⟨by omega,Xm g.1,g.2⟩,trivial⟩
  ·rename_i ty ko w e
   simp only[V.aG,hh,aH e,OV.aF,V.aT,List.append_nil]
   unfold ldR at q
   cases hb:(Nat.beq off 0&&Nat.beq ko k) with
   |true =>
    rw[hb] at q; cases q
    simp only[Bool.and_eq_true] at hb
    have e1:=jh hb.1; have e2:=jh hb.2; subst e1; subst e2
    simp only[Sd.holds,Rw.DF] at hs
    have hlt:j<w.len:=by omega
    simp only[BEq.rfl,Bool.and_self,Bool.true_or,cond_true,Rw.eU,Rw.LH hlt]
    exact⟨⟨hlt,trivial⟩,trivial⟩
   |false =>
    rw[hb] at q
    simp only[cond_false] at q
    split at q
    ·rename_i u hu
     obtain⟨g,q⟩:=aS q
     cases q
     have hb':(off==0&&ko==k)=false:=by
      rw[Bool.and_eq_false_iff] at hb ⊢
      rcases hb with hb|hb
      ·left; simpa using Nat.ne_of_beq_eq_false hb
      ·right; simpa using Nat.ne_of_beq_eq_false hb
     simp only[Sd.holds,Rw.DF] at hs
     have hlt:j<w.len:=by omega
     simp only[hb',cond_false,Bool.false_or,Rw.eU,Rw.LH hlt,V.DJ hu]
     simp only[Bool.and_eq_true] at g ⊢
     exact⟨⟨hlt,Xm g.1,g.2⟩,trivial⟩
    ·cases q
  ·cases q
 ·cases q
theorem abz(hh:s.hp=h.aj){x:X}{u r:V}{sd:Sd}(q:ncZ h u=some (r,sd))(h1:s.ev x=u.aG):Ok s (.nc x) r:=by
 unfold Ok; simp only[qc,qt]; rw[h1]
 unfold ncZ at q
 split at q
 ·cases q; simp[V.aG]
 ·obtain⟨g,q⟩:=aS q; cases q; simp[V.aG,hh,Hz.wX,g]
 ·cases q; simp[V.aG]
 ·cases q
theorem Zl(hh:s.hp=h.aj){str:Bool}{x:X}{u r:V}{sd:Sd}(q:abr h str u=some (r,sd))(h1:s.ev x=u.aG):Ok s (.len str x) r:=by
 unfold Ok; simp only[qc,qt]; rw[h1]
 unfold abr at q
 split at q
 ·obtain⟨g,q⟩:=aS q; cases q
  simp only[Bool.not_eq_true'] at g
  simp[V.aG,Rw.LG,Rw.eU,g]
 ·obtain⟨g,q⟩:=aS q; cases q
  simp only[Bool.not_eq_true'] at g
  simp[V.aG,gu,g]
 ·obtain⟨g,q⟩:=aS q; cases q
  simp[V.aG,eS,Ah,g]
 ·rename_i o
  split at q
  ·rename_i ty k w y e
   obtain⟨g,q⟩:=aS q
   simp only[Bool.and_eq_true,Bool.not_eq_true'] at g
   have hk:k≠fF:=Nat.ne_of_beq_eq_false g.2
   split at q
   ·cases q
    simp only[V.aG,hh,aH e,OV.aF,V.aT,List.append_nil,Rw.LG,Rw.eU]
    exact⟨⟨g.1,hk⟩,trivial⟩
   ·cases q
    simp only[V.aG,hh,aH e,OV.aF,List.length_append,gu,Rw.eU]
    exact⟨⟨g.1,hk⟩,by simp⟩
  ·cases q
 ·rename_i o lo hi
  obtain⟨g,q⟩:=aS q; cases q
  simp only[Bool.and_eq_true,Bool.not_eq_true'] at g
  simp[V.aG,hh,Hz.wX,g]
 ·cases q
theorem abA{x y:X}{u v r:V}{sd:Sd}(q:mxZ u v=some (r,sd))(h1:s.ev x=u.aG)(h2:s.ev y=v.aG):Ok s (.mx x y) r:=by
 unfold Ok; simp only[qc,qt]; rw[h1,h2]
 unfold mxZ at q
 split at q
 ·rename_i a b
  cases q; simp only[V.aG,true_and]; congr 2; split<;>omega
 ·cases q
theorem abB{x y:X}{u v r:V}{sd:Sd}(q:mnZ u v=some (r,sd))(h1:s.ev x=u.aG)(h2:s.ev y=v.aG):Ok s (.mn x y) r:=by
 unfold Ok; simp only[qc,qt]; rw[h1,h2]
 unfold mnZ at q
 split at q
 ·rename_i a b
  cases q; simp only[V.aG,true_and]; congr 2; split<;>omega
 ·cases q
theorem abC{i:Nat}{x:X}{u r:V}{sd:Sd}(q:exZ i u=some (r,sd))(h1:s.ev x=u.aG):Ok s (.ex x i) r:=by
 unfold Ok; simp only[qc,qt]; rw[h1]
 unfold exZ at q
 split at q
 ·split at q
  ·rename_i l _ v e
   cases q
   have hi:i<l.length:=(List.getElem?_eq_some_iff.1 e).1
   simp only[V.aG,Nat.blt_eq,gu,zD e]
   exact⟨hi,trivial⟩
  ·cases q
 ·cases q
theorem Zm{ne:Bool}{n:Nat}{x y:X}{u v r:V}{sd:Sd}(q:abt ne n u v=some (r,sd))(h1:s.ev x=u.aG)(h2:s.ev y=v.aG):Ok s (.eqs ne n x y) r:=by
 unfold Ok; simp only[qc,qt]; rw[h1,h2]
 unfold abt at q
 split at q
 ·rename_i x y
  obtain⟨g,q⟩:=aS q; cases q
  have:=jh g; subst this
  have e:qV [.int x.c,.int x.n,.int x.t,.int x.f] [.int y.c,.int y.n,.int y.t,.int y.f]=(x==y):=by
   cases x; cases y; simp[qV,BEq.beq]
  simp only[V.aG,Dat.aG,Qn,e]
  exact⟨rfl,trivial⟩
 ·rename_i x y
  obtain⟨g,q⟩:=aS q; cases q
  have:=jh g; subst this
  have e:qV [.int x.message,.int x.DC,.int x.bound.c,.int x.bound.n,.int x.bound.t,.int x.bound.f] [.int y.message,.int y.DC,.int y.bound.c,.int y.bound.n,.int y.bound.t,.int y.bound.f]=(x==y):=by
   obtain⟨a,b,c,d,e,f⟩:=x; obtain⟨a',b',c',d',e',f'⟩:=y; simp[qV,BEq.beq]
  simp only[V.aG,Dat.aG,NZ,e]
  exact⟨rfl,trivial⟩
 ·cases q
theorem Zn{x:X}{u r:V}{sd:Sd}(q:abu u=some (r,sd))(h1:s.ev x=u.aG):Ok s (.KQ x) r:=by
 unfold Ok; simp only[qc,qt]; rw[h1]
 unfold abu at q
 split at q
 ·cases q; simp[V.aG,Rw.LG,Rw.eU]
 ·cases q
end
section
variable {m:Fm} {h:Hz} {s:AS}
theorem uM(R:Rp m s.fr): ∀ {xs:List X} {l:List V} {sd:Sd},Ba m xs=some (l,sd)->sd.holds->xs.map s.ev=V.aT l:=by
 intro xs
 induction xs with
 |nil=>intro l sd q _; cases q; rfl
 |cons x r ih =>
  intro l sd q hs
  simp only[Ba] at q
  split at q
  ·rename_i v l' s' h1 h2
   cases q
   rw[Sd.nI] at hs
   simp only[List.map_cons,V.aT]
   rw[R.ev h1,jB (v:=v) (u:=v.bare.1) (s:=v.bare.2) rfl hs.1,ih h2 hs.2]
  ·cases q
theorem EO: ∀ {l:List V},Bc h l=true->wI h.aj (V.aT l)=true:=by
 intro l
 induction l with
 |nil=>intro _; rfl
 |cons v r ih =>
  intro q
  simp only[Bc,Bool.and_eq_true] at q
  simp only[V.aT,wI,Bool.and_eq_true]
  exact⟨V.wY q.1,ih q.2⟩
theorem F7{k:Nat}: ∀ {l:List V},Jh k l=true-> ∀ v∈l,v.kd=some k:=by
 intro l
 induction l with
 |nil=>intro _ v hv; cases hv
 |cons u r ih =>
  intro q v hv
  simp only[Jh,Bool.and_eq_true] at q
  rcases List.mem_cons.1 hv with rfl|hv
  ·have:=q.1
   split at this
   ·rename_i k' e; rw[e,jh this]
   ·cases this
  ·exact ih q.2 v hv
theorem UC: ∀ {l:List V},Bc h l=true->Jh 0 l=true->xQ h.aj (V.aT l)=true:=by
 intro l
 induction l with
 |nil=>intro _ _; rfl
 |cons v r ih =>
  intro q k
  have hk:=F7 k v (by simp)
  simp only[Bc,Jh,Bool.and_eq_true] at q k
  simp only[V.aT,xQ,Bool.and_eq_true]
  exact⟨V.Xk q.1 hk,ih q.2 k.2⟩
theorem Xo: ∀ {ps:List (Nat×Nat×X)} {vs z l:List V},Ry ps vs z=some l->(ps.map fun p=>s.ev p.2.2)=V.aT vs ->
  Et (V.aT z) (ps.map fun p=>(p.1,p.2.1,s.ev p.2.2))=true/\E9 (V.aT z) (ps.map fun p=>(p.1,p.2.1,s.ev p.2.2))=V.aT l:=by
 intro ps
 induction ps with
 |nil =>
  intro vs z l q he
  cases vs with
  |nil=>cases q; exact⟨rfl,rfl⟩
  |cons v vs=>simp[V.aT] at he
 |cons p ps ih =>
  intro vs z l q he
  obtain⟨off,n,x⟩:=p
  cases vs with
  |nil=>simp[V.aT] at he
  |cons v vs =>
   simp only[Ry] at q
   split at q
   ·rename_i c hc
    obtain⟨g,q⟩:=aS q
    simp only[List.map_cons,V.aT,List.cons.injEq] at he
    simp only[Bool.and_eq_true] at g
    have e1:=jh g.1
    obtain⟨i1,i2⟩:=ih q he.2
    simp only[List.map_cons,Et,E9,Bool.and_eq_true]
    have ec:(s.ev x).cells=V.aT c:=by rw[he.1]; exact V.EN hc
    simp only[yc,Iz,IB] at i1 i2
    simp only[ec,gu]
    refine⟨⟨⟨by simpa using e1,g.2⟩,i1⟩,i2⟩
   ·cases q
theorem abD(R:Rp m s.fr)(hh:s.hp=h.aj){z:List T}{ps:List (Nat×Nat×X)}{r:V}{sd:Sd}(q:mkZ m h z ps=some (r,sd))(hs:sd.holds):Ok s (.mk z ps) r:=by
 unfold mkZ at q
 split at q
 ·rename_i vs s' hb
  split at q
  ·rename_i l hl
   obtain⟨g,q⟩:=aS q
   cases q
   have he:=uM R hb hs
   have he':(ps.map fun p=>s.ev p.2.2)=V.aT vs:=by rw[<- he]; simp
   obtain⟨i1,i2⟩:=Xo hl he'
   rw[Aj] at i1 i2
   unfold Ok; simp only[qc,qt]
   rw[i1,i2,he',hh,EO g]
   exact⟨rfl,rfl⟩
  ·cases q
 ·cases q
theorem RD{k n:Nat}: ∀ {ps:List (Nat×X)} {vs z l:List V},Xh n ps vs z=some l->(ps.map fun p=>s.ev p.2)=V.aT vs->Jh k vs=true ->
  Hg k n (ps.map fun p=>(p.1,s.ev p.2))=true/\pX (V.aT z) (ps.map fun p=>(p.1,s.ev p.2))=V.aT l:=by
 intro ps
 induction ps with
 |nil =>
  intro vs z l q he _
  cases vs with
  |nil=>cases q; exact⟨rfl,rfl⟩
  |cons v vs=>simp[V.aT] at he
 |cons p ps ih =>
  intro vs z l q he hk
  obtain⟨i,x⟩:=p
  cases vs with
  |nil=>simp[V.aT] at he
  |cons v vs =>
   simp only[Xh] at q
   obtain⟨g,q⟩:=aS q
   simp only[List.map_cons,V.aT,List.cons.injEq] at he
   have hkv:=F7 hk v (by simp)
   simp only[Jh,Bool.and_eq_true] at hk
   obtain⟨i1,i2⟩:=ih q he.2 hk.2
   have e:V.aT (z.set i v)=(V.aT z).set i (s.ev x):=by rw[he.1]; simp[nZ,List.map_set]
   rw[e] at i2
   simp only[List.map_cons,Hg,pX,Bool.and_eq_true]
   refine⟨⟨⟨?_,g⟩,i1⟩,i2⟩
   rw[he.1,V.LK hkv]; simp
theorem abE(R:Rp m s.fr)(hh:s.hp=h.aj){ty k:Nat}{z:T}{n:Nat}{ps:List (Nat×X)}{r:V}{sd:Sd}(q:msZ m h k z n ps=some (r,sd))(hs:sd.holds):Ok s (.ms ty k z n ps) r:=by
 unfold msZ at q
 split at q
 ·rename_i vs s' hb
  split at q
  ·rename_i l hl
   obtain⟨g,q⟩:=aS q
   have hs':s'.holds/\r.aG= .sl k true (V.aT l):=by
    split at q
    ·rename_i w hw
     cases q; exact⟨hs,by simp only[V.aG]; rw[Rw.Aj hw]⟩
    ·cases q; exact⟨hs,rfl⟩
   have he:=uM R hb hs'.1
   have he':(ps.map fun p=>s.ev p.2)=V.aT vs:=by rw[<- he]; simp
   simp only[Bool.and_eq_true] at g
   obtain⟨⟨⟨⟨⟨⟨g1,g2⟩,g3⟩,g4⟩,g5⟩,g6⟩,g7⟩:=g
   obtain⟨i1,i2⟩:=RD hl he' g3
   have e:V.aT (List.replicate n (AQ z))=List.replicate n z:=by rw[nZ,List.map_replicate,x9]
   rw[e] at i2
   unfold Ok; simp only[qc,qt]
   rw[i1,i2,he',hh,EO g4,V.iq _ g5,g1,g2,g6,g7,hs'.2]
   exact⟨rfl,rfl⟩
  ·cases q
 ·cases q
theorem zF(R:Rp m s.fr){x:Option X}{v:Option V}{sd:Sd}(q:Iy m x=some (v,sd))(hs:sd.holds):x.map s.ev=v.map V.aG:=by
 cases x with
 |none=>cases q; rfl
 |some x =>
  simp only[Iy] at q
  split at q
  ·rename_i u hu
   cases q
   simp only[Option.map_some]; rw[R.ev hu,jB (v:=u) (u:=u.bare.1) (s:=u.bare.2) rfl hs]
  ·cases q
theorem EP{k k':Nat}{r:Rw}(g:kOk k k' r=true):k'=k\/r.aT=[]:=by
 unfold kOk at g
 split at g
 ·exact .inr rfl
 ·exact .inl (jh g)
theorem Oc{k k':Nat}{f:Bool}{w:Rw}{lo hi mx:Option V}{r:V}{sd:Sd}(q:Xi k k' f w lo hi mx=some (r,sd))(hs:sd.holds) :
  Ye k (.sl k' f w.aT) (lo.map V.aG) (hi.map V.aG) (mx.map V.aG)/\Nw k (.sl k' f w.aT) (lo.map V.aG) (hi.map V.aG) (mx.map V.aG)=r.aG:=by
 unfold Xi at q
 split at q
 ·obtain⟨g,q⟩:=aS q; cases q
  simp only[Option.map_none,Ye,Nw,V.aG]
  exact⟨EP g,trivial⟩
 ·obtain⟨g,q⟩:=aS q; cases q
  simp only[Sd.holds,Rw.rZ] at hs
  simp only[Option.map_none,Option.map_some,Ye,Nw,V.aG,Rw.N9,Rw.eU]
  exact⟨⟨EP g,hs⟩,trivial⟩
 ·obtain⟨g,q⟩:=aS q; cases q
  simp only[Sd.holds,Rw.rZ] at hs
  simp only[Option.map_none,Option.map_some,Ye,Nw,V.aG,Rw.DI,Rw.eU]
  exact⟨⟨EP g,hs⟩,trivial⟩
 ·obtain⟨g,q⟩:=aS q; cases q
  simp only[Sd.holds,Rw.rZ] at hs
  simp only[Option.map_none,Option.map_some,Ye,Nw,V.aG,Rw.DI,Rw.N9,Rw.eU]
  exact⟨⟨EP g,hs.1,hs.2.1,hs.2.2.2⟩,trivial⟩
 ·obtain⟨g,q⟩:=aS q; cases q
  simp only[Sd.holds,Rw.rZ] at hs
  simp only[Option.map_none,Option.map_some,Ye,Nw,V.aG,Rw.DI,Rw.eU]
  exact⟨⟨EP g,hs.1,hs.2.1,hs.2.2.2⟩,trivial⟩
 ·cases q
theorem Xp{k i ty ko:Nat}{w:Rw}{lo hi mx:Option V}{r:V}{sd:Sd}(q:Xj k i ko w lo hi mx=some (r,sd))(hs:sd.holds) :
  Di k ⟨ty,ko,w.aT⟩ (lo.map V.aG) (hi.map V.aG) (mx.map V.aG)/\yA i ⟨ty,ko,w.aT⟩ (lo.map V.aG) (hi.map V.aG) (mx.map V.aG)=r.aG:=by
 unfold Xj at q
 split at q
 ·obtain⟨g,q⟩:=aS q; cases q
  simp only[Sd.holds,Rw.rZ] at hs
  simp only[Option.map_none,Option.map_some,Di,yA,V.aG,Rw.eU]
  exact⟨⟨jh g,hs⟩,trivial⟩
 ·obtain⟨g,q⟩:=aS q; cases q
  simp only[Sd.holds,Rw.rZ] at hs
  simp only[Option.map_none,Option.map_some,Di,yA,V.aG,Rw.eU]
  exact⟨⟨jh g,hs⟩,trivial⟩
 ·obtain⟨g,q⟩:=aS q; cases q
  simp only[Sd.holds,Rw.rZ] at hs
  simp only[Option.map_none,Option.map_some,Di,yA,V.aG,Rw.eU]
  exact⟨⟨jh g,hs.1,hs.2.1,hs.2.2.2⟩,trivial⟩
 ·cases q
theorem UD{k i ty ko:Nat}{w:Rw}{xs:List V}{lo hi mx:Option V}{r:V}{sd:Sd}(q:Qr k i ko w xs lo hi mx=some (r,sd))(hs:sd.holds) :
  Di k ⟨ty,ko,w.aT++V.aT xs⟩ (lo.map V.aG) (hi.map V.aG) (mx.map V.aG)/\yA i ⟨ty,ko,w.aT++V.aT xs⟩ (lo.map V.aG) (hi.map V.aG) (mx.map V.aG)=r.aG:=by
 unfold Qr at q
 split at q
 ·obtain⟨g,q⟩:=aS q; cases q
  simp only[Sd.holds,Rw.rZ] at hs
  simp only[Option.map_none,Option.map_some,Di,yA,V.aG]
  refine⟨⟨jh g,hs.1,?_⟩,trivial⟩
  have:=hs.2
  simp only[List.length_append,Rw.eU]; omega
 ·split at q
  ·simp only[V.aT,List.append_nil]; exact Xp q hs
  ·cases q
theorem RF(R:Rp m s.fr){b:Bool}{k:Nat}{x:X}{lo hi mx:Option X}{r:V}{sd:Sd}(q:slX m h b k x lo hi mx=some (r,sd))(hs:sd.holds) :
  ∃ v lo' hi' mx' s',slZ h b k v lo' hi' mx'=some (r,s')/\s'.holds/\s.ev x=v.aG/\lo.map s.ev=lo'.map V.aG/\hi.map s.ev=hi'.map V.aG/\mx.map s.ev=mx'.map V.aG:=by
 obtain⟨v,s',q,hs,hv⟩:=kG R q hs
 split at q
 ·rename_i lo' s1 hi' s2 mx' s3 e1 e2 e3
  split at q
  ·rename_i u s4 e4
   cases q
   rw[Sd.nI,Sd.nI,Sd.nI] at hs
   exact⟨v,lo',hi',mx',s4,e4,hs.2.2.2,hv,zF R e1 hs.1,zF R e2 hs.2.1,zF R e3 hs.2.2.1⟩
  ·cases q
 ·cases q
theorem acT(R:Rp m s.fr){k:Nat}{x:X}{lo hi mx:Option X}{r:V}{sd:Sd}(q:slX m h false k x lo hi mx=some (r,sd))(hs:sd.holds):Ok s (.sl k x lo hi mx) r:=by
 obtain⟨v,lo',hi',mx',s',q,hs,hv,e1,e2,e3⟩:=RF R q hs
 unfold Ok; simp only[qc,qt]; rw[hv,e1,e2,e3]
 unfold slZ at q
 split at q
 ·exact Oc q hs
 ·cases q
 ·cases q
theorem abG(R:Rp m s.fr)(hh:s.hp=h.aj){k:Nat}{x:X}{lo hi mx:Option X}{r:V}{sd:Sd}(q:slX m h true k x lo hi mx=some (r,sd))(hs:sd.holds):Ok s (.OT k x lo hi mx) r:=by
 obtain⟨v,lo',hi',mx',s',q,hs,hv,e1,e2,e3⟩:=RF R q hs
 unfold Ok; simp only[qc,qt]; rw[hv,e1,e2,e3]
 unfold slZ at q
 split at q
 ·exact Oc q hs
 ·simp only[cond_true] at q
  split at q
  ·rename_i i _ ty ko w xs e
   simp only[V.aG,hh,aH e,OV.aF]
   exact UD q hs
  ·cases q
 ·cases q
theorem BU{t:Str}{a b:Nat}(hab:a<=b)(_hb:b<=t.length):(bs t).extract a b=bs ((t.take b).drop a):=by
 apply ByteArray.ext
 have h1:((bs t).extract a b).data=(bs t).data.extract a b:=ByteArray.data_extract
 rw[h1]
 apply Array.ext'
 simp[bs,List.extract,List.take_drop]
 rw[show a+(b-a)=b by omega]
theorem acU(R:Rp m s.fr){x:X}{lo hi:Option X}{r:V}{sd:Sd}(q:ssX m x lo hi=some (r,sd))(hs:sd.holds):Ok s (.ss x lo hi) r:=by
 obtain⟨v,s',q,hs,hv⟩:=kG R q hs
 split at q
 ·rename_i t lo' s1 hi' s2 e1 e2
  split at q
  ·rename_i u s4 e4
   cases q
   rw[Sd.nI,Sd.nI] at hs
   have f1:=zF R e1 hs.1
   have f2:=zF R e2 hs.2.1
   unfold Ok; simp only[qc,qt]; rw[hv,f1,f2]
   have hs4:=hs.2.2
   unfold ssZ at e4
   split at e4
   ·cases e4
    simp only[Sd.holds] at hs4
    simp only[Option.map_none,Option.map_some,V.aG,eS,Ah]
    refine⟨hs4,?_⟩
    rw[BU (by omega) (Nat.le_refl _)]; simp
   ·cases e4
    simp only[Sd.holds] at hs4
    simp only[Option.map_none,Option.map_some,V.aG,eS,Ah]
    refine⟨hs4,?_⟩
    rw[BU (by omega) (by omega)]; simp
   ·cases e4
    simp only[Sd.holds] at hs4
    simp only[Option.map_some,V.aG,eS,Ah]
    refine⟨hs4,?_⟩
    rw[BU (by omega) (by omega)]
   ·cases e4
  ·cases q
 ·cases q
theorem abH(R:Rp m s.fr)(hh:s.hp=h.aj){f:FuncId}{cap:List X}{r:V}{sd:Sd}(q:mfZ m h f cap=some (r,sd))(hs:sd.holds):Ok s (.mf f cap) r:=by
 unfold mfZ at q
 split at q
 ·rename_i l s' hb
  obtain⟨g,q⟩:=aS q
  cases q
  simp only[Bool.and_eq_true] at g
  unfold Ok; simp only[qc,qt]
  rw[uM R hb hs,hh,UC g.1.1 g.1.2,g.2]
  exact⟨rfl,rfl⟩
 ·cases q
theorem abI{f:FuncId}{x:X}{v r:V}{sd:Sd}(q:mbZ f v=some (r,sd))(h1:s.ev x=v.aG):Ok s (.mb f x) r:=by
 unfold mbZ at q
 split at q
 ·obtain⟨g,q⟩:=aS q; cases q
  unfold Ok; simp only[qc,qt]; rw[h1]; exact⟨Nat.blt_eq.mp g,rfl⟩
 ·obtain⟨g,q⟩:=aS q; cases q
  rename_i d
  unfold Ok; simp only[qc,qt]; rw[h1]; simp only[V.aG]; rw[Dat.EM]; exact⟨Nat.blt_eq.mp g,rfl⟩
 ·cases q
theorem Xq(R:Rp m s.fr)(hh:s.hp=h.aj){op:nY}{r:V}{sd:Sd}(q:qz m h op=some (r,sd))(hs:sd.holds):dA op=true/\Ok s op r:=by
 unfold qz at q
 split at q
 ·split at q
  ·rename_i v e; cases q
   exact⟨rfl,trivial,R.ev e⟩
  ·cases q
 ·obtain⟨c,s',q,hs,hc⟩:=kG R q hs
  split at q
  ·rename_i t va vb e1 e2
   exact⟨rfl,Xl R e1 e2 q hs hc⟩
  ·cases q
 ·obtain⟨u,v,s',q,hs,h1,h2⟩:=yg R q hs
  exact⟨rfl,Zj q hs h1 h2⟩
 ·obtain⟨u,v,s',q,hs,h1,h2⟩:=yg R q hs
  split at q
  ·cases q; refine⟨rfl,?_⟩; unfold Ok; simp only[qc,qt]; rw[h1,h2]; exact⟨rfl,rfl⟩
  ·cases q
 ·obtain⟨u,s',q,hs,h1⟩:=kG R q hs
  split at q
  ·cases q; refine⟨rfl,?_⟩; unfold Ok; simp only[qc,qt]; rw[h1]; exact⟨rfl,rfl⟩
  ·cases q
 ·obtain⟨u,s',q,hs,h1⟩:=kG R q hs
  split at q
  ·cases q; refine⟨rfl,?_⟩; unfold Ok; simp only[qc,qt]; rw[h1]; simp only[V.aG,true_and]; rw[Rz hs]
  ·cases q; refine⟨rfl,?_⟩; unfold Ok; simp only[qc,qt]; rw[h1]; simp only[V.aG,true_and]; rw[Rz hs]
  ·cases q; refine⟨rfl,?_⟩; unfold Ok; simp only[qc,qt]; rw[h1]; simp only[V.aG,true_and]; rw[Rz hs]
  ·cases q
 ·obtain⟨u,s',q,hs,h1⟩:=kG R q hs
  split at q
  ·cases q; refine⟨rfl,?_⟩; unfold Ok; simp only[qc,qt]; rw[h1]; simp only[V.aG,true_and]; rw[acS hs.1 hs.2]
  ·cases q
 ·obtain⟨u,s',q,hs,h1⟩:=kG R q hs; exact⟨rfl,abv hh q h1⟩
 ·obtain⟨u,s',q,hs,h1⟩:=kG R q hs; exact⟨rfl,abw q h1⟩
 ·obtain⟨u,v,s',q,hs,h1,h2⟩:=yg R q hs; exact⟨rfl,abx hh q hs h1 h2⟩
 ·obtain⟨u,v,s',q,hs,h1,h2⟩:=yg R q hs; exact⟨rfl,aby q hs h1 h2⟩
 ·obtain⟨u,s',q,hs,h1⟩:=kG R q hs; exact⟨rfl,Xn hh q hs h1⟩
 ·obtain⟨u,s',q,hs,h1⟩:=kG R q hs; exact⟨rfl,abz hh q h1⟩
 ·obtain⟨u,s',q,hs,h1⟩:=kG R q hs; exact⟨rfl,Zl hh q h1⟩
 ·obtain⟨u,v,s',q,hs,h1,h2⟩:=yg R q hs; exact⟨rfl,abA q h1 h2⟩
 ·obtain⟨u,v,s',q,hs,h1,h2⟩:=yg R q hs; exact⟨rfl,abB q h1 h2⟩
 ·exact⟨rfl,abD R hh q hs⟩
 ·exact⟨rfl,abE R hh q hs⟩
 ·exact⟨rfl,acT R q hs⟩
 ·exact⟨rfl,abG R hh q hs⟩
 ·exact⟨rfl,acU R q hs⟩
 ·obtain⟨u,s',q,hs,h1⟩:=kG R q hs; exact⟨rfl,abC q h1⟩
 ·exact⟨rfl,abH R hh q hs⟩
 ·obtain⟨u,v,s',q,hs,h1,h2⟩:=yg R q hs; exact⟨rfl,Zm q h1 h2⟩
 ·obtain⟨u,s',q,hs,h1⟩:=kG R q hs; exact⟨rfl,Zn q h1⟩
 ·obtain⟨u,s',q,hs,h1⟩:=kG R q hs; exact⟨rfl,abI q h1⟩
 ·cases q
end
structure ah(P:Program)(dr:Bool)(g:Option Bool)(f:FuncId)(args:List V)(h:Hz)(n:Nat)(K:V->Hz->Prop)(KW:Nat->V->Hz->Prop):Prop where
 ok:(match g with
  |none=>aN P f (V.aT args) h.aj n fun t hp=> ∃ v h',t=v.aG/\hp=h'.aj/\(dr=true->h'=h/\t.free=true)/\K v h'
  |some b=>(∃ v,(b=true->aN P f (V.aT args) h.aj n fun t hp=>t=v.aG/\hp=h.aj)/\v.free=true/\K v h) \/
   (dr=false/\(b=true->aN P f (V.aT args) h.aj n fun t hp=> ∃ v h',t=v.aG/\hp=h'.aj/\K v h')/\(b=false->K (.int 0) h))) \/
  (g=none/\dr=false/\ ∃ k,jS P f (V.aT args) h.aj n k fun t hp=> ∃ v h',t=v.aG/\hp=h'.aj/\KW k v h') \/
  (g=none/\dr=true/\h.get n=none/\aN P f (V.aT args) h.aj n fun t hp=> ∃ v o,t=v.aG/\hp=Hz.aj ((n,some o)::h)/\KW 0 v ((n,some o)::h))
def BX(dr fl:Bool)(a b c:Prop):Prop :=
 match dr with
 |false=>a
 |true=>match fl with
  |false=>b
  |true=>c
inductive SI(p a b:Prop):Prop where
 |mk:(p->a)->b->SI p a b
inductive aaG(o:Option (List Bool))(yes:List Bool->Prop)(no:Prop):Prop where
 |mk:(∀ l,o=some l->yes l)->(o=none->no)->aaG o yes no
def V.seq(v:V)(K:V->Prop):Prop :=
 match v with
 | .int n=>K (.int n)
 | .bool b=>K (.bool b)
 | .u8 n=>K (.u8 n)
 | .str s=>K (.str s)
 | .dat d=>K (.dat d)
 | .agg l=>K (.agg l)
 | .row k f r=>K (.row k f r)
 | .yF k f l=>K (.yF k f l)
 | .ref k v=>K (.ref k v)
 | .own i=>K (.own i)
 | .ptr i j o=>K (.ptr i j o)
 | .qQ i a b=>K (.qQ i a b)
 | .fn f l=>K (.fn f l)
 | .fK l=>K (.fK l)
 | .cnd b v=>K (.cnd b v)
 | .raw t=>K (.raw t)
theorem V.seq_eq(v:V)(K:V->Prop):v.seq K=K v:=by cases v<;>rfl
def jk(d:Option Nat)(v:V)(m:Fm):Fm :=
 match d with
 |some d=>(d,v)::m
 |none=>m
def qU:Option Bool->V->V
 |none,v=>v
 |some b,.cnd c v=>.cnd (b&&c) v
 |some b,v=>.cnd b v
theorem ER(v:V):(qU (some true) v).aG=v.aG:=by cases v<;>rfl
theorem Qv(v:V):(qU (some false) v).aG=T.un:=by cases v<;>rfl
def Qw(m:Fm):Option (Nat×Bool)->Option (Option Bool)
 |none=>some none
 |some (g,w)=>match m.get g with
  |some (.bool b)=>some (some (bif w then b else !b))
  |some (.cnd c (.bool b))=>some (some (c&&(bif w then b else !b)))
  |_=>none
def ltX(nx:Nat)(m:Fm):List X->Bool
 |[]=>true
 |x::r=>(match AA m x with|some v=>T.lt nx v.aG|none=>false)&&ltX nx m r
def Xr(nx:Nat)(m:Fm):nY->Bool
 | .st _ x _=>match AA m x with|some v=>T.newer nx v.aG|none=>false
 | .app _ _ _ x _=>match AA m x with|some v=>T.newer nx v.aG|none=>false
 | .Nv _ _ _=>false
 | .PV _ _ _=>false
 | .call _ _=>true
 | .pW _ _=>true
 |op=>ltX nx m op.xs
def Zo(i:Nat)(m:Fm):List X->Bool
 |[]=>true
 |x::r=>(match AA m x with|some v=>T.nid i v.aG|none=>false)&&Zo i m r
def neB(m:Fm)(xs:List X):List Nat->Bool
 |[]=>true
 |d::r=>(match m.get d with|some (.ptr i _ _)=>Zo i m xs|_=>false)&&neB m xs r
def J7(nx:Nat)(o:aP)(m:Fm):Bool:=(!o.fl||Xr nx m o.op)&&neB m o.op.xs o.ne
def isZero:V->Bool
 | .int (.ofNat 0)=>true
 |_=>false
def SC(n:Nat):T->Option Rw
 | .lit (.int .i64 z)=>some (.ints (List.replicate n z))
 | .lit (.bool z)=>some (.bools (List.replicate n z))
 | .lit (.string z)=>some (.strs (List.replicate n z.data.toList))
 |_=>none
def Rw.set(j:Nat)(v:V)(r:Rw):Option Rw :=
 match r,v with
 | .ints l,.int n=>some (.ints (l.set j n))
 | .bools l,.bool n=>some (.bools (l.set j n))
 | .strs l,.str n=>some (.strs (l.set j n))
 | .rules l,.dat (.rule n)=>some (.rules (l.set j n))
 | .clauses l,.dat (.clause n)=>some (.clauses (l.set j n))
 | .elems l,.dat (.elem n)=>some (.elems (l.set j n))
 | .kZ l,.row 0 false (.ints n)=>some (.kZ (l.set j n))
 |_,_=>none
def abJ(h:Hz)(k:Nat):V->Option (Rw×List V)
 | .row k' _ r=>dP (kOk k k' r) (some (r,[]))
 | .yF k' _ l=>dP (Nat.beq k' k) (some (.nil,l))
 | .own o=>match h.get o with
  |some (.row _ ko r x)=>dP (Nat.beq ko k) (some (r,x))
  |_=>none
 |_=>none
def abK(r:Rw)(x:List V)(r':Rw)(x':List V):Option (Rw×List V) :=
 match x,r' with
 |[],r'=>match r.app r' with|some w=>some (w,x')|none=>none
 |x,.nil=>some (r,x++x')
 |_,_=>none
def lH(r:Rw)(x:List V):Nat :=
 match x with
 |[]=>r.len
 |x=>r.len+x.length
def mD(bytes:Nat)(a b:Nat):Prop:=(a+b)*bytes<=140737488355328/\a+b<=1152921504606846976
def setCells(v:V)(off:Nat)(u:V):Option V :=
 match v.cells,u.cells with
 |some l,some c=>some (.agg (l.take off++c++l.drop (off+c.length)))
 |_,_=>none
def LM:List V->(List V->Prop)->Prop
 |[],K=>K []
 |v::r,K=>LM r fun r'=>K (v::r')
def V.force(v:V)(K:V->Prop):Prop :=
 match v with
 | .agg l=>LM l fun l=>K (.agg l)
 |v=>K v
theorem UE: ∀ {l:List V} {K:List V->Prop},LM l K=K l:=by
 intro l
 induction l with
 |nil=>intro K; rfl
 |cons v r ih=>intro K; show LM r (fun r'=>K (v::r'))=_; rw[ih]
theorem V.force_eq(v:V)(K:V->Prop):v.force K=K v:=by
 cases v<;>first|rfl|exact UE
structure PK(c p a b:Prop):Prop where
 ok:(c\/b)/\p/\a
theorem PK.one{c p a b:Prop}(h:c/\p)(k:a):PK c p a b:=⟨.inl h.1,h.2,k⟩
theorem PK.both{c p a b:Prop}(h:p)(k:a)(l:b):PK c p a b:=⟨.inr l,h,k⟩
def Zp(dr:Bool)(d:Option Nat)(n:Nat)(m:Fm)(h:Hz)(K:Fm->Hz->Prop):nY->Prop
 | .box ty k x=>match AA m x with
  |some v=>match v.bare with
   |(v,s)=>bif Jh k [v]&&v.kS h&&yL k then s.vc none (K (jk d (.ptr n 0 0) m) ((n,some (.box ty k v))::h)) else False
  |none=>False
 | .al ty k z=>bif z.kd==k&&z.kS h.aj&&z.free&&yL k then K (jk d (.ptr n 0 0) m) ((n,some (.box ty k (AQ z)))::h) else False
 | .make ty k bytes z x y=>match AA m x,AA m y with
  |some (.int a),some (.int b)=>bif z.kd==k&&z.kS h.aj&&z.free&&yL k then
    (match (bif isZero (.int a) then some .nil else SC a.toNat z) with
    |some r=>VC (0<=a/\a<=b/\b*bytes<=140737488355328/\b<=1152921504606846976) (K (jk d (.own n) m) ((n,some (.row ty k r []))::h))
    |none=>False) else False
  |_,_=>False
 | .st k x v=>match AA m x,AA m v with
  |some (.ptr i j off),some v=>match v.bare with
   |(v,s)=>bif Jh k [v]&&v.kS h then
    (match h.get i with
    |some (.box ty ko w)=>bif Nat.beq j 0 then
      (bif Nat.beq off 0&&Nat.beq ko k then s.vc none (K m ((i,some (.box ty ko v))::h))
      else bif !(Nat.beq ko 0)&&mQ (bg ko) off k then(match setCells w off v with
       |some w'=>w'.force fun w'=>s.vc none (K m ((i,some (.box ty ko w'))::h))
       |none=>False) else False) else False
    |some (.row ty ko r [])=>bif Nat.beq off 0&&Nat.beq ko k then(match r.set j v with
      |some r'=>s.vc none (VC (r.rng j) (K m ((i,some (.row ty ko r' []))::h)))
      |none=>False) else False
    |_=>False) else False
  |_,_=>False
 | .app ty k bytes x y=>match AA m x,AA m y with
  |some x,some y=>match abJ h k y with
   |some (r',x')=>(match x with
    | .row _ true .nil=>VC (mD bytes 0 (lH r' x')) (K (jk d (.own n) m) ((n,some (.row ty k r' x'))::h))
    | .row k' true r=>bif Nat.beq k' k then(match r.app r' with
     |some w=>PK (r.len=0\/0<lH r' x') (mD bytes r.len (lH r' x')) (K (jk d (.own n) m) ((n,some (.row ty k w x'))::h)) (dr=false/\K (jk d (.row k' true r) m) h)
     |none=>False) else False
    | .own i=>(match h.get i with
     |some (.row ty' ko r x)=>bif Nat.beq ko k&&Nat.beq ty' ty then(match abK r x r' x' with
      |some (w,z)=>VC (mD bytes (lH r x) (lH r' x')) (K (jk d (.own n) m) ((n,some (.row ty k w z))::(i,none)::h))
      |none=>False) else False
     |_=>False)
    |_=>False)
   |none=>False
  |_,_=>False
 | .PV k z x=>match AA m x with
  |some (.qQ i lo hi)=>match h.get i with
   |some (.row ty ko r [])=>bif Nat.beq ko k&&z.kd==k&&z.kS h.aj&&z.free then
     VC (lo<=hi/\hi=r.len) (match d with
      |none=>K m ((i,some (.row ty ko (r.take lo) (List.replicate (hi-lo) (AQ z))))::h)
      |some _=>K (jk d (.raw T.un) m) ((i,some (.row ty ko (r.take lo) (List.replicate (hi-lo) (AQ z))))::h)) else False
   |_=>False
  |_=>False
 | .zY ty k z nn ps=>match Ba m (ps.map fun p=>p.2) with
  |some (vs,s)=>match Xh nn ps vs (List.replicate nn (AQ z)) with
   |some l=>bif (z.kd==k)&&z.free&&Jh k vs&&Bc h vs&&Nat.ble (nn*bg k) 16777216&&yL k then s.vc none (K (jk d (.own n) m) ((n,some (.row ty k .nil l))::h)) else False
   |none=>False
  |none=>False
 | .zf x=>match AA m x with
  |some (.row _ _ r)=>SI (r.len=0) (K (jk d (.bool true) m) h) (K (jk d (.bool false) m) h)
  |some (.own i)=>match h.get i with
   |some (.row _ ko r [])=>bif Nat.beq ko fF then False else SI (r.len=0) (K (jk d (.bool true) m) h) (K (jk d (.bool false) m) h)
   |_=>False
  |_=>False
 | .TY ty=>K (jk d (.own n) m) ((n,some (.map ty [] []))::h)
 | .YT z x i=>match AA m x,AA m i with
  |some (.own o),some (.int k)=>match h.get o with
   |some (.map _ es [])=>aaG (wz k es) (fun l=>K (jk d (.fK [.row 0 false (.bools l),.bool true]) m) h) (K (jk d (.fK [AQ z,.bool false]) m) h)
   |_=>False
  |_,_=>False
 | .Nv x i v=>match AA m x,AA m i,AA m v with
  |some (.own o),some (.int k),some v=>match v.bare with
   |(v,s)=>match h.get o with
    |some (.map ty es [])=>bif Jh 0 [v]&&v.kS h then s.vc none (VC (wz k es=none) (K m ((o,some (.map ty es [(k,v)]))::h))) else False
    |_=>False
  |_,_,_=>False
 |_=>False
def abL(P:Program)(dr:Bool)(nx n:Nat)(o:aP)(KK:Nat->Fm->Hz->Prop)(m:Fm)(h:Hz):Prop :=
 match Qw m o.g with
 |none=>False
 |some g=>bif J7 nx o m then
   (match o.op with
   | .call f xs=>(match Ba m xs with
    |some (l,s)=>s.vc g (match g with
     |none=>BX dr o.fl (ah P false none f l h n (fun v h'=>v.seq fun v=>KK 0 (jk o.d v m) h') (fun k v h'=>v.seq fun v=>KK k (jk o.d v m) h')) (ah P true none f l h n (fun v h'=>v.seq fun v=>KK 0 (jk o.d v m) h') (fun _ _ _=>False)) (ah P false none f l h n (fun v h'=>v.seq fun v=>KK 0 (jk o.d v m) h') (fun _ _ _=>False))
     |some b=>BX dr o.fl (ah P false (some b) f l h n (fun v h'=>v.seq fun v=>KK 0 (jk o.d (qU (some b) v) m) h') (fun _ _ _=>False)) (ah P true (some b) f l h n (fun v h'=>v.seq fun v=>KK 0 (jk o.d (qU (some b) v) m) h') (fun _ _ _=>False)) (ah P false (some b) f l h n (fun v h'=>v.seq fun v=>KK 0 (jk o.d (qU (some b) v) m) h') (fun _ _ _=>False)))
    |none=>False)
   | .pW x xs=>(match AA m x,Ba m xs with
    |some v,some (l,s)=>(match v.bare with
     |(.fn f cap,s0)=>(s0.and s).vc g (bif Nat.blt f 4096 then BX dr o.fl (ah P false g f (l++cap) h n (fun v h'=>v.seq fun v=>KK 0 (jk o.d (qU g v) m) h') (fun _ _ _=>False)) (ah P true g f (l++cap) h n (fun v h'=>v.seq fun v=>KK 0 (jk o.d (qU g v) m) h') (fun _ _ _=>False)) (ah P false g f (l++cap) h n (fun v h'=>v.seq fun v=>KK 0 (jk o.d (qU g v) m) h') (fun _ _ _=>False)) else BX dr o.fl (ah P false g (f % 4096) (.agg cap::l) h n (fun v h'=>v.seq fun v=>KK 0 (jk o.d (qU g v) m) h') (fun _ _ _=>False)) (ah P true g (f % 4096) (.agg cap::l) h n (fun v h'=>v.seq fun v=>KK 0 (jk o.d (qU g v) m) h') (fun _ _ _=>False)) (ah P false g (f % 4096) (.agg cap::l) h n (fun v h'=>v.seq fun v=>KK 0 (jk o.d (qU g v) m) h') (fun _ _ _=>False)))
     |_=>False)
    |_,_=>False)
   |op=>(match qz m h op with
    |some (v,s)=>s.vc g (v.seq fun v=>KK 0 (jk o.d (qU g v) m) h)
    |none=>(match g with
     |none=>Zp dr o.d n m h (KK 0) op
     |some b=>Fork b (Zp dr o.d n m h (KK 0) op) (KK 0 (jk o.d (.cnd false (.int 0)) m) h))))
   else False
def adZ(P:Program)(nx n:Nat)(o:aP)(KK:Nat->Fm->Hz->Prop)(m:Fm)(h:Hz):Prop :=
 match o.op,o.g with
 | .call f xs,none=>bif o.fl&&J7 nx o m then
   (match Ba m xs with
   |some (l,s)=>s.vc none (ah P true none f l h n (fun v h'=>v.seq fun v=>KK 0 (jk o.d v m) h') (fun _ v h'=>v.seq fun v=>KK 0 (jk o.d v m) h'))
   |none=>False)
   else False
 |_,_=>False
def opZ(P:Program)(dr:Bool)(nx n:Nat)(o:aP)(KK:Nat->Fm->Hz->Prop)(m:Fm)(h:Hz):Prop :=
 match o.ad with
 |true=>adZ P nx n o KK m h
 |false=>abL P dr nx n o KK m h
def Oe(P:Program)(dr:Bool)(ml:Nat)(nx:Nat)(K:Fm->Hz->Nat->Prop):List aP->Nat->Fm->Hz->Prop
 |[],_,m,h=>K m h (nx+ml)
 |o::r,i,m,h=>opZ P dr nx (nx+i) o (fun k=>Oe P dr ml (nx+k) K r (i+1)) m h
abbrev Qz:=oL->Fm->Hz->Nat->Prop
def Lift(N pn:Nat)(Q:Qz)(e:oL)(s:AS):Prop:= ∃ m h,s.fr.length=N/\Rp m s.fr/\s.hp=h.aj/\s.pin=pn/\Q e m h s.nx
structure aJ(P:Program)(N pn:Nat)(b:dR)(Q:Qz)(m:Fm)(h:Hz)(nx:Nat):Prop where
 ok: ∀ fr,fr.length=N->Rp m fr->yB (aw P b) (Lift N pn Q) ⟨fr,h.aj,nx,pn⟩
def az(P:Program)(N pn:Nat):dR->Qz->Fm->Hz->Nat->Prop
 | .skip,Q,m,h,nx=>Q .normal m h nx
 | .reg dr ops,Q,m,h,nx=>Oe P dr ops.length nx (fun m h nx=>Q .normal m h nx) ops 0 m h
 | .seq a b,Q,m,h,nx=>az P N pn a (fun e m h nx=>match e with| .normal=>az P N pn b Q m h nx|e=>Q e m h nx) m h nx
 | .cond c a b,Q,m,h,nx =>
  match AA m c with
  |some (.bool t)=>Fork t (az P N pn a Q m h nx) (az P N pn b Q m h nx)
  |_=>False
 | .blk id b,Q,m,h,nx=>az P N pn b (fun e m h nx=>match e with| .exit j=>(bif Nat.beq j id then Q .normal m h nx else Q (.exit j) m h nx)|e=>Q e m h nx) m h nx
 | .exit id,Q,m,h,nx=>Q (.exit id) m h nx
 | .ret,Q,m,h,nx=>Q .ret m h nx
 | .loop b,Q,m,h,nx=>aJ P N pn b Q m h nx
def LP(N:Nat):List aP->Bool
 |[]=>true
 |o::r=>(match o.d with|some d=>Nat.blt d N|none=>true)&&LP N r
def oQ(N:Nat):dR->Bool
 | .skip=>true
 | .reg _ ops=>LP N ops
 | .seq a b=>oQ N a&&oQ N b
 | .cond _ a b=>oQ N a&&oQ N b
 | .blk _ b=>oQ N b
 | .exit _=>true
 | .ret=>true
 | .loop b=>oQ N b
section
variable {P:Program} {m:Fm} {h:Hz}
theorem bD{i:Nat}{o:Option OV}:Hz.aj ((i,o)::h)=upd h.aj i (o.map OV.aF):=by
 funext j
 simp only[Hz.aj,Hz.get,upd]
 by_cases e:j=i
 ·subst e; simp
 ·have:Nat.beq i j=false:=by
   cases hb:Nat.beq i j with
   |false=>rfl
   |true=>exact absurd (jh hb).symm e
  simp[this,e]
theorem Rp.put{fr:List T}(R:Rp m fr){d:Option Nat}{v:V}(hd: ∀ i,d=some i->i<fr.length){s:AS}(hs:s.fr=fr):Rp (jk d v m) (s.put d v.aG).fr:=by
 subst hs
 cases d with
 |none=>exact R
 |some d =>
  intro i u hu
  simp only[jk,Fm.get] at hu
  show(s.fr.set d v.aG)[i]? =_
  cases hb:Nat.beq d i with
  |true =>
   rw[hb] at hu; simp at hu; subst hu
   have:=jh hb; subst this
   rw[List.getElem?_set_self (hd d rfl)]
  |false =>
   rw[hb] at hu
   have hne:d≠i:=Nat.ne_of_beq_eq_false hb
   rw[List.getElem?_set_ne hne]
   exact R i u hu
theorem RG{s:AS}{d:Option Nat}{t:T}:(s.put d t).fr.length=s.fr.length:=by cases d<;>simp[AS.put]
theorem ru{g:Option Bool}{k:Prop}{s:Sd}(q:s.vc g k):((g=none\/g=some true)->s.holds)/\k:=by
 unfold Sd.vc at q
 split at q
 ·exact⟨fun _=>trivial,q⟩
 ·split at q
  ·obtain⟨a,b⟩:=q; exact⟨fun _=>a,b⟩
  ·obtain⟨a,b⟩:=q; exact⟨fun hg=>a (by rcases hg with e|e<;>cases e; rfl),b⟩
theorem UF{s:AS}(R:Rp m s.fr){g:Option (Nat×Bool)}{g':Option Bool}(q:Qw m g=some g'):(gv g s=some true/\(g'=none\/g'=some true))\/(gv g s=some false/\g'=some false):=by
 unfold Qw at q
 split at q
 ·cases q; exact .inl ⟨rfl,.inl rfl⟩
 ·rename_i d w
  split at q
  ·rename_i b e
   cases q
   have hg:s.fr.getD d .any= .lit (.bool b):=R.getD e
   simp only[gv,hg]
   cases w<;>cases b<;>simp
  ·rename_i c b e
   cases q
   have hg:s.fr.getD d .any=bif c then .lit (.bool b) else T.un:=R.getD e
   cases c with
   |true=>simp only[gv,hg,cond_true]; cases w<;>cases b<;>simp
   |false=>simp only[gv,hg,cond_false]; simp
  ·cases q
theorem Zq{s:AS}(R:Rp m s.fr){nx:Nat}: ∀ {xs:List X},ltX nx m xs=true->(xs.all fun x=>T.lt nx (s.ev x))=true:=by
 intro xs
 induction xs with
 |nil=>intro _; rfl
 |cons x r ih =>
  intro q
  simp only[ltX,Bool.and_eq_true] at q
  simp only[List.all_cons,Bool.and_eq_true]
  refine⟨?_,ih q.2⟩
  have:=q.1
  split at this
  ·rename_i v e; rw[R.ev e]; exact this
  ·cases this
theorem Xt{s:AS}(R:Rp m s.fr){i:Nat}: ∀ {xs:List X},Zo i m xs=true->(xs.all fun x=>T.nid i (s.ev x))=true:=by
 intro xs
 induction xs with
 |nil=>intro _; rfl
 |cons x r ih =>
  intro q
  simp only[Zo,Bool.and_eq_true] at q
  simp only[List.all_cons,Bool.and_eq_true]
  refine⟨?_,ih q.2⟩
  have:=q.1
  split at this
  ·rename_i v e; rw[R.ev e]; exact this
  ·cases this
theorem abM{s:AS}(R:Rp m s.fr){xs:List X}: ∀ {l:List Nat},neB m xs l=true->KR s xs l=true:=by
 intro l
 induction l with
 |nil=>intro _; rfl
 |cons d r ih =>
  intro q
  simp only[neB,Bool.and_eq_true] at q
  simp only[KR,Bool.and_eq_true]
  refine⟨?_,ih q.2⟩
  have:=q.1
  split at this
  ·rename_i i j o e
   have hg:s.fr.getD d .any= .ptr i j o:=R.getD e
   simp only[AS.obj,hg]
   exact Xt R this
  ·cases this
theorem Og{s:AS}(R:Rp m s.fr){o:aP}(q:J7 s.nx o m=true):kD o s:=by
 unfold J7 at q
 simp only[Bool.and_eq_true,Bool.or_eq_true,Bool.not_eq_true'] at q
 refine⟨fun hf=>?_,abM R q.2⟩
 have h1:Xr s.nx m o.op=true:=by
  rcases q.1 with h|h
  ·rw[hf] at h; cases h
  ·exact h
 unfold Xr at h1
 split at h1
 ·rename_i k x v e
  rw[e]
  split at h1
  ·rename_i u hu; simp only; rw[R.ev hu]; exact h1
  ·cases h1
 ·rename_i e
  rw[e]
  split at h1
  ·rename_i u hu; simp only; rw[R.ev hu]; exact h1
  ·cases h1
 ·cases h1
 ·cases h1
 ·rename_i e; rw[e]
 ·rename_i e; rw[e]
 ·rename_i op h2 h3 h4 h5 h6 h7
  have:=Zq R h1
  split
  ·rename_i e; exact absurd e (h2 _ _ _)
  ·rename_i e; exact absurd e (h3 _ _ _ _ _)
  ·rename_i e; exact absurd e (h4 _ _ _)
  ·rename_i e; exact absurd e (h5 _ _ _)
  ·rfl
  ·rfl
  ·exact this
def Kz(N pn nx:Nat)(K:Fm->Hz->Prop)(s:AS):Prop:= ∃ m h,s.fr.length=N/\Rp m s.fr/\s.hp=h.aj/\s.pin=pn/\s.nx=nx/\K m h
theorem UG{k:Nat}{v:V}(q:Jh k [v]=true):v.aG.kd=k:=V.LK (F7 q v (by simp))
theorem Zr{n:Nat}{z:T}{r:Rw}(q:SC n z=some r):r.aT=List.replicate n z:=by
 unfold SC at q
 split at q<;>cases q
 ·simp[Rw.aT]
 ·simp[Rw.aT]
 ·simp only[Rw.aT,List.map_replicate]; rw[aai]
theorem Rw.Zt{j:Nat}{v:V}{r w:Rw}(q:r.set j v=some w):w.aT=r.aT.set j v.aG:=by
 unfold Rw.set at q
 split at q<;>first|(cases q; done)|(cases q; simp[Rw.aT,V.aG,Dat.aG,List.map_set])
theorem Zu{k:Nat}{y:V}{r:Rw}{x:List V}(q:abJ h k y=some (r,x)):PX h.aj k y.aG= .list (r.aT++V.aT x):=by
 unfold abJ at q
 split at q
 ·rename_i k' f w
  obtain⟨g,q⟩:=aS q; cases q
  simp only[V.aG,PX,V.aT,List.append_nil]
  rcases EP g with rfl|e
  ·cases r.aT<;>simp
  ·rw[e]
 ·rename_i k' f l
  obtain⟨g,q⟩:=aS q; cases q
  have:=jh g; subst this
  simp only[V.aG,PX,Rw.aT,List.nil_append]
  cases hx:V.aT x<;>simp
 ·split at q
  ·rename_i o _ ty ko w z e
   obtain⟨g,q⟩:=aS q; cases q
   have:=jh g; subst this
   simp[V.aG,PX,aH e,OV.aF]
  ·cases q
 ·cases q
theorem DK{r:Rw}{x:List V}:lH r x=(r.aT++V.aT x).length:=by
 unfold lH
 split
 ·simp[V.aT,Rw.eU]
 ·simp[gu,Rw.eU]
theorem Zv{r r' w:Rw}{x x' z:List V}(q:abK r x r' x'=some (w,z)):w.aT++V.aT z=(r.aT++V.aT x)++(r'.aT++V.aT x'):=by
 unfold abK at q
 split at q
 ·split at q
  ·rename_i w' e; cases q; rw[Rw.LJ e]; simp[V.aT]
  ·cases q
 ·cases q; simp[yc,Rw.aT]
 ·cases q
theorem abN{k:Int}: ∀ {es:List (Int×List Bool)},uZ k (es.map yI)=(wz k es).map fun l=>.sl 0 false (l.map T.bool):=by
 intro es
 induction es with
 |nil=>rfl
 |cons e es ih =>
  obtain⟨m,l⟩:=e
  simp only[List.map_cons,yI,uZ,T.int,wz]
  cases k==m
  ·exact ih
  ·rfl
theorem acV{k:Int}{v:T}: ∀ {es:List (Int×List Bool)},wz k es=none->zi k v (es.map yI)=es.map yI++[.fK [.int k,v]]:=by
 intro es
 induction es with
 |nil=>intro _; rfl
 |cons e es ih =>
  obtain⟨m,l⟩:=e
  intro h
  simp only[wz] at h
  cases hb:k==m with
  |true=>rw[hb] at h; cases h
  |false =>
   rw[hb] at h
   simp only[List.map_cons,yI,zi,T.int,hb,cond_false,List.cons_append]
   rw[ih h]
theorem J8{N pn n nx:Nat}{d:Option Nat}{op:nY}{K:Fm->Hz->Prop}{s:AS}{dr:Bool}(hl:s.fr.length=N)(hd: ∀ i,d=some i->i<N)(R:Rp m s.fr)(hh:s.hp=h.aj)(hp:s.pin=pn)(hn:s.nx=nx)(q:Zp dr d n m h K op) :
  mX P dr n d op (Kz N pn nx K) s:=by
 have hd': ∀ i,d=some i->i<s.fr.length:=fun i e=>by rw[hl]; exact hd i e
 have fin: ∀ {v:V} {h':Hz},K (jk d v m) h'->Kz N pn nx K {(s.put d v.aG) with hp:=h'.aj}:=fun {v h'} hk =>
  ⟨_,h',by show(s.put d v.aG).fr.length=N; rw[RG,hl],R.put (v:=v) hd' rfl,rfl,by show(s.put d v.aG).pin=pn; cases d<;>exact hp,by show(s.put d v.aG).nx=nx; cases d<;>exact hn,hk⟩
 unfold Zp at q
 split at q
 ·rename_i ty k x
  split at q
  ·rename_i v e
   split at q
   rename_i v' s' hb
   cases g:Jh k [v']&&v'.kS h&&yL k with
   |false=>rw[g] at q; exact q.elim
   |true =>
    rw[g] at q
    simp only[Bool.and_eq_true] at g
    simp only[cond_true] at q
    obtain⟨hs,hk⟩:=ru q
    have ev:s.ev x=v'.aG:=by rw[R.ev e]; exact jB hb (hs (.inl rfl))
    simp only[mX]
    rw[ev,UG g.1.1,hh,V.wY g.1.2,g.2]
    refine⟨by simp,?_⟩
    have:=fin hk
    rw[bD] at this
    exact this
  ·exact q.elim
 ·rename_i ty k z
  cases g:z.kd==k&&z.kS h.aj&&z.free&&yL k with
  |false=>rw[g] at q; exact q.elim
  |true =>
   rw[g] at q
   simp only[mX]
   rw[hh,g]
   refine⟨rfl,?_⟩
   have:=fin q
   rw[bD] at this
   simp only[Option.map_some,OV.aF,x9] at this
   exact this
 ·rename_i ty k bytes z x y
  split at q
  ·rename_i a b e1 e2
   cases g:z.kd==k&&z.kS h.aj&&z.free&&yL k with
   |false=>rw[g] at q; exact q.elim
   |true =>
    rw[g] at q
    simp only[cond_true] at q
    split at q
    ·rename_i r er
     obtain⟨c,hk⟩:=q
     simp only[mX]
     rw[R.ev e1,R.ev e2]
     simp only[V.aG]
     rw[hh,g]
     refine⟨rfl,c,?_⟩
     have:=fin hk
     rw[bD] at this
     simp only[Option.map_some,OV.aF,V.aT,List.append_nil] at this
     have hr:r.aT=List.replicate a.toNat z:=by
      cases hz:isZero (.int a) with
      |false=>rw[hz] at er; exact Zr er
      |true =>
       rw[hz] at er; cases er
       unfold isZero at hz
       split at hz
       ·rename_i e; cases e; rfl
       ·cases hz
     rw[hr] at this
     exact this
    ·exact q.elim
  ·exact q.elim
 ·rename_i k x v
  split at q
  ·rename_i i j off v0 e1 e2
   split at q
   rename_i v' s' hb
   cases g:Jh k [v']&&v'.kS h with
   |false=>rw[g] at q; exact q.elim
   |true =>
    rw[g] at q
    simp only[Bool.and_eq_true] at g
    simp only[cond_true] at q
    have fin2: ∀ {h':Hz},K m h'->Kz N pn nx K {s with hp:=h'.aj}:=fun {h'} hk=>⟨m,h',hl,R,rfl,hp,hn,hk⟩
    have ex:s.ev x= .ptr i j off:=R.ev e1
    simp only[mX]
    rw[ex]
    simp only
    split at q
    ·rename_i ty ko w eo
     rw[hh,aH eo]
     simp only[OV.aF]
     cases hj:Nat.beq j 0 with
     |false=>rw[hj] at q; exact q.elim
     |true =>
      have:=jh hj; subst this
      rw[hj] at q
      simp only[cond_true] at q
      cases hb2:(Nat.beq off 0&&Nat.beq ko k) with
      |true =>
       rw[hb2] at q
       simp only[cond_true] at q
       obtain⟨hs,hk⟩:=ru q
       have ev:s.ev v=v'.aG:=by rw[R.ev e2]; exact jB hb (hs (.inl rfl))
       simp only[Bool.and_eq_true] at hb2
       have f1:=jh hb2.1; have f2:=jh hb2.2; subst f1; subst f2
       rw[ev,UG g.1,V.wY g.2]
       refine⟨by simp,by simp,by simp,?_⟩
       have:=fin2 hk
       rw[bD] at this
       simp only[BEq.rfl,Bool.and_self,cond_true,List.set_cons_zero]
       exact this
      |false =>
       rw[hb2] at q
       simp only[cond_false] at q
       cases hc:(!(Nat.beq ko 0)&&mQ (bg ko) off k) with
       |false=>rw[hc] at q; exact q.elim
       |true =>
        rw[hc] at q
        simp only[cond_true] at q
        split at q
        ·rename_i w' hw
         rw[V.force_eq] at q
         obtain⟨hs,hk⟩:=ru q
         have ev:s.ev v=v'.aG:=by rw[R.ev e2]; exact jB hb (hs (.inl rfl))
         have hb':(off==0&&ko==k)=false:=by
          rw[Bool.and_eq_false_iff] at hb2 ⊢
          rcases hb2 with hb2|hb2
          ·left; simpa using Nat.ne_of_beq_eq_false hb2
          ·right; simpa using Nat.ne_of_beq_eq_false hb2
         simp only[Bool.and_eq_true] at hc
         rw[ev,UG g.1,V.wY g.2]
         refine⟨by simp,by simp,?_,?_⟩
         ·simp only[hb',Bool.false_or,Bool.and_eq_true]; exact⟨Xm hc.1,hc.2⟩
         ·have:=fin2 hk
          rw[bD] at this
          simp only[hb',cond_false,List.set_cons_zero,List.getD_cons_zero]
          have ew:w.aG.splice off v'.aG=w'.aG:=by
           unfold setCells at hw
           split at hw
           ·rename_i l c f1 f2
            cases hw
            unfold T.splice
            rw[V.EN f1,V.EN f2]
            simp only[V.aG,yc,Iz,IB,gu]
           ·cases hw
          rw[ew]
          exact this
        ·exact q.elim
    ·rename_i ty ko r eo
     rw[hh,aH eo]
     simp only[OV.aF,V.aT,List.append_nil]
     cases hb2:(Nat.beq off 0&&Nat.beq ko k) with
     |false=>rw[hb2] at q; exact q.elim
     |true =>
      rw[hb2] at q
      simp only[cond_true] at q
      split at q
      ·rename_i r' hr
       obtain⟨hs,hk0⟩:=ru q
       obtain⟨adK,hk⟩:=hk0
       have ev:s.ev v=v'.aG:=by rw[R.ev e2]; exact jB hb (hs (.inl rfl))
       simp only[Bool.and_eq_true] at hb2
       have f1:=jh hb2.1; have f2:=jh hb2.2; subst f1; subst f2
       rw[Rw.DF] at adK
       rw[ev,UG g.1,V.wY g.2]
       refine⟨by simp,by rw[Rw.eU]; omega,by simp,?_⟩
       have:=fin2 hk
       rw[bD] at this
       simp only[Option.map_some,OV.aF,V.aT,List.append_nil,Rw.Zt hr] at this
       simp only[BEq.rfl,Bool.and_self,cond_true]
       exact this
      ·exact q.elim
    ·exact q.elim
  ·exact q.elim
 ·rename_i ty k bytes x y
  split at q
  ·rename_i vx vy e1 e2
   split at q
   ·rename_i r' x' es
    simp only[mX]
    rw[R.ev e1,R.ev e2,hh,Zu es]
    simp only
    split at q
    ·rename_i k'
     obtain⟨c,hk⟩:=q
     have e0:(V.row k' true Rw.nil).aG= .sl k' true []:=rfl
     rw[e0]
     unfold mD at c
     rw[DK] at c
     refine⟨.inr rfl,.inl (.inl rfl),by simpa using c.1,by simpa using c.2,?_⟩
     have:=fin hk
     rw[bD] at this
     exact this
    ·rename_i k' r hnn
     cases hb2:Nat.beq k' k with
     |false=>rw[hb2] at q; exact q.elim
     |true =>
      rw[hb2] at q
      have:=jh hb2; subst this
      simp only[cond_true] at q
      split at q
      ·rename_i w hw
       obtain⟨c1,c2,hk⟩:=q.ok
       simp only[V.aG]
       unfold mD at c2
       rw[DK] at c1 c2
       refine⟨.inl trivial,?_,by rw[Rw.eU]; exact c2.1,by rw[Rw.eU]; exact c2.2,?_⟩
       ·rcases c1 with (c|c)|⟨c,hk2⟩
        ·left; left; exact List.eq_nil_of_length_eq_zero (by rw[Rw.eU]; exact c)
        ·left; right; intro e; rw[e] at c; simp at c
        ·right
         refine⟨c,?_⟩
         have f1:=fin hk2
         rw[<- hh] at f1
         rw[show({(s.put d (V.row k' true r).aG) with hp:=s.hp}:AS)=s.put d (.sl k' true r.aT) by cases d<;>rfl] at f1
         exact f1
       ·have:=fin hk
        rw[bD] at this
        simp only[Option.map_some,OV.aF,Rw.LJ hw,List.append_assoc] at this
        exact this
      ·exact q.elim
    ·rename_i i
     split at q
     ·rename_i ty' ko r xx eo
      cases hb2:(Nat.beq ko k&&Nat.beq ty' ty) with
      |false=>rw[hb2] at q; exact q.elim
      |true =>
       rw[hb2] at q
       simp only[cond_true] at q
       simp only[Bool.and_eq_true] at hb2
       have f1:=jh hb2.1; have f2:=jh hb2.2; subst f1; subst f2
       split at q
       ·rename_i w z hw
        obtain⟨c,hk⟩:=q
        simp only[V.aG,aH eo,OV.aF]
        unfold mD at c
        rw[DK,DK] at c
        refine⟨by simp,c.1,c.2,?_⟩
        have:=fin hk
        rw[bD,bD] at this
        simp only[Option.map_some,Option.map_none,OV.aF,Zv hw] at this
        exact this
       ·exact q.elim
     ·exact q.elim
    ·exact q.elim
   ·exact q.elim
  ·exact q.elim
 ·rename_i k z x
  split at q
  ·rename_i i lo hi e
   split at q
   ·rename_i ty ko r eo
    cases g:(Nat.beq ko k&&z.kd==k&&z.kS h.aj&&z.free) with
    |false=>rw[g] at q; exact q.elim
    |true =>
     rw[g] at q
     simp only[cond_true] at q
     obtain⟨⟨c1,c2⟩,hk⟩:=q
     simp only[Bool.and_eq_true] at g
     obtain⟨⟨⟨g1,g2⟩,g3⟩,g4⟩:=g
     have f1:=jh g1; subst f1
     simp only[mX]
     rw[R.ev e]
     simp only[V.aG,hh,aH eo,OV.aF]
     refine⟨by simp[g2,g3,g4],by simp[Rw.eU,c2,V.aT],?_⟩
     have el:(r.take lo).aT++V.aT (List.replicate (hi-lo) (AQ z))=List.take lo (r.aT++V.aT [])++List.replicate (hi-lo) z++List.drop hi (r.aT++V.aT []):=by
      rw[Rw.DI,nZ,List.map_replicate,x9]
      simp[V.aT,Rw.eU,c2]
     cases d with
     |none =>
      simp only at hk
      refine⟨_,_,hl,R,?_,hp,hn,hk⟩
      rw[bD]
      simp only[Option.map_some,OV.aF,el]
     |some dd =>
      simp only at hk
      have:=fin hk
      rw[bD] at this
      simp only[Option.map_some,OV.aF,el] at this
      exact this
   ·exact q.elim
  ·exact q.elim
 ·rename_i ty k z nn ps
  split at q
  ·rename_i vs s' hb
   split at q
   ·rename_i l hl
    cases g:((z.kd==k)&&z.free&&Jh k vs&&Bc h vs&&Nat.ble (nn*bg k) 16777216&&yL k) with
    |false=>rw[g] at q; exact q.elim
    |true =>
     rw[g] at q
     simp only[cond_true] at q
     obtain⟨hs,hk⟩:=ru q
     have he:=uM R hb (hs (.inl rfl))
     have he':(ps.map fun p=>s.ev p.2)=V.aT vs:=by rw[<- he]; simp
     simp only[Bool.and_eq_true] at g
     obtain⟨⟨⟨⟨⟨g1,g2⟩,g3⟩,g4⟩,g5⟩,g6⟩:=g
     obtain⟨i1,i2⟩:=RD hl he' g3
     have e:V.aT (List.replicate nn (AQ z))=List.replicate nn z:=by rw[nZ,List.map_replicate,x9]
     rw[e] at i2
     simp only[mX]
     rw[i1,i2,he',hh,EO g4,g1,g2,g5,g6]
     refine⟨rfl,?_⟩
     have:=fin hk
     rw[bD] at this
     simp only[Option.map_some,OV.aF,Rw.aT,List.nil_append] at this
     exact this
   ·exact q.elim
  ·exact q.elim
 ·rename_i x
  split at q
  ·rename_i k' f r e
   obtain⟨q1,q2⟩:=q
   simp only[mX]
   rw[R.ev e]
   have f1:=fun hz=>fin (q1 hz)
   have f2:=fin q2
   rw[<- hh] at f1 f2
   refine⟨fun hl=>?_,?_⟩
   ·have:=f1 (by rw[<- Rw.eU]; exact congrArg List.length hl)
    rw[show({(s.put d (V.bool true).aG) with hp:=s.hp}:AS)=s.put d (.lit (.bool true)) by cases d<;>rfl] at this
    exact this
   ·rw[show({(s.put d (V.bool false).aG) with hp:=s.hp}:AS)=s.put d (.lit (.bool false)) by cases d<;>rfl] at f2
    exact f2
  ·rename_i i e
   split at q
   ·rename_i ty ko r eo
    cases hb:Nat.beq ko fF with
    |true=>rw[hb] at q; exact q.elim
    |false =>
     rw[hb] at q
     obtain⟨q1,q2⟩:=q
     simp only[mX]
     rw[R.ev e]
     have f1:=fun hz=>fin (q1 hz)
     have f2:=fin q2
     rw[<- hh] at f1 f2
     simp only[V.aG,hh,aH eo,OV.aF]
     refine⟨fun hl=>?_,?_,Nat.ne_of_beq_eq_false hb⟩
     ·have:=f1 (by rw[<- Rw.eU]; simpa [V.aT] using congrArg List.length hl)
      rw[show({(s.put d (V.bool true).aG) with hp:=s.hp}:AS)=s.put d (.lit (.bool true)) by cases d<;>rfl] at this
      exact this
     ·rw[show({(s.put d (V.bool false).aG) with hp:=s.hp}:AS)=s.put d (.lit (.bool false)) by cases d<;>rfl] at f2
      exact f2
   ·exact q.elim
  ·exact q.elim
 ·rename_i ty
  simp only[mX]
  have:=fin q
  rw[bD] at this
  rw[hh]
  exact this
 ·rename_i z x i
  split at q
  ·rename_i o k e1 e2
   split at q
   ·rename_i ty es eo
    obtain⟨q1,q2⟩:=q
    rw[dI rfl]
    simp only[qc,qt]
    rw[R.ev e1,R.ev e2]
    simp only[V.aG,T.int,hh,aH eo,OV.aF,List.map_nil,List.append_nil,abN]
    refine⟨trivial,?_⟩
    cases hg:wz k es with
    |some l =>
     have f1:=fin (q1 l hg)
     rw[<- hh] at f1
     rw[show({(s.put d (V.fK [.row 0 false (.bools l),.bool true]).aG) with hp:=s.hp}:AS)=s.put d (.fK [.sl 0 false (l.map T.bool),.lit (.bool true)]) by cases d<;>rfl] at f1
     exact f1
    |none =>
     have f2:=fin (q2 hg)
     rw[<- hh] at f2
     rw[show({(s.put d (V.fK [AQ z,.bool false]).aG) with hp:=s.hp}:AS)=s.put d (.fK [(AQ z).aG,.lit (.bool false)]) by cases d<;>rfl,x9] at f2
     exact f2
   ·exact q.elim
  ·exact q.elim
 ·rename_i x i v
  split at q
  ·rename_i o k w e1 e2 e3
   split at q
   rename_i v' s' hb
   split at q
   ·rename_i ty es eo
    cases g:Jh 0 [v']&&v'.kS h with
    |false=>rw[g] at q; exact q.elim
    |true =>
     rw[g] at q
     simp only[Bool.and_eq_true] at g
     simp only[cond_true] at q
     obtain⟨hs,c,hk⟩:=ru q
     have ev:s.ev v=v'.aG:=by rw[R.ev e3]; exact jB hb (hs (.inl rfl))
     have hkd:=UG g.1
     have hst:=V.wY g.2
     simp only[mX]
     rw[R.ev e1,R.ev e2,ev]
     simp only[V.aG,T.int,hh,aH eo,OV.aF,List.map_nil,List.append_nil]
     refine⟨trivial,?_,?_⟩
     ·rw[hkd]
      have:v'.aG.wH h.aj=true:=by
       revert hst hkd
       cases v'.aG<;>simp[T.kS,T.kd]
      rw[this]; rfl
     ·have hK:Kz N pn nx K {s with hp:=Hz.aj ((o,some (.map ty es [(k,v')]))::h)}:=⟨m,_,hl,R,rfl,hp,hn,hk⟩
      rw[bD] at hK
      have:=acV (v:=v'.aG) c
      simp only[T.int] at this
      rw[this]
      exact hK
   ·exact q.elim
  ·exact q.elim
 ·exact q.elim
end
section
variable {P:Program} {m:Fm} {h:Hz}
theorem Kz.put{N pn nx:Nat}{K:Fm->Hz->Prop}{s:AS}{d:Option Nat}{v:V}{t:T}{h':Hz}(hl:s.fr.length=N)(hd: ∀ i,d=some i->i<N)(R:Rp m s.fr)(hp:s.pin=pn)(hn:s.nx=nx)(ht:t=v.aG)(hk:K (jk d v m) h') :
  Kz N pn nx K {(s.put d t) with hp:=h'.aj}:=by
 subst ht
 exact⟨_,h',by show(s.put d v.aG).fr.length=N; rw[RG,hl],R.put (v:=v) (fun i e=>by rw[hl]; exact hd i e) rfl,rfl,by show(s.put d v.aG).pin=pn; cases d<;>exact hp,by show(s.put d v.aG).nx=nx; cases d<;>exact hn,hk⟩
theorem IC{N pn nx n:Nat}{K:Fm->Hz->Prop}{KW:Nat->Fm->Hz->Prop}{s:AS}{d:Option Nat}{dr:Bool}{g:Option Bool}{f:FuncId}{l:List V}(hl:s.fr.length=N)(hd: ∀ i,d=some i->i<N)(R:Rp m s.fr)(hh:s.hp=h.aj)(hp:s.pin=pn)(hn:s.nx=nx)
  (hg:g=none\/g=some true) (q:ah P dr g f l h n (fun v h'=>v.seq fun v=>K (jk d (qU g v) m) h') (fun k v h'=>v.seq fun v=>KW k (jk d v m) h')) (hq:dr=true-> ∀ (v:V) (h':Hz),¬ (v.seq fun v=>KW 0 (jk d v m) h')) :
  mW P dr n d f (V.aT l) (Kz N pn nx K) s\/(dr=false/\ ∃ k,jS P f (V.aT l) s.hp n k fun t hp=>Kz N pn (nx+k) (KW k) {(s.put d t) with hp:=hp,nx:=s.nx+k}):=by
 unfold mW
 rw[hh]
 rcases q.ok with q|⟨rfl,rfl,k,q⟩|⟨_,hdr,_,⟨_,_,v,o,_,_,hk⟩,_⟩
 rotate_left
 rotate_left
 ·exact absurd hk (hq hdr _ _)
 rotate_left
 ·refine .inr ⟨rfl,k,q.mono ?_⟩
  rintro t hp' ⟨v,h',rfl,rfl,hk⟩
  rw[V.seq_eq] at hk
  obtain⟨m',h'',a1,a2,a3,a4,_,a6⟩:=Kz.put (K:=KW k) hl hd R hp hn rfl hk
  exact⟨m',h'',a1,a2,a3,a4,by show s.nx+k=nx+k; rw[hn],a6⟩
 left
 rcases hg with rfl|rfl
 ·refine aN.mono q ?_
  rintro t hp' ⟨v,h',e1,e2,e3,hk⟩
  rw[V.seq_eq] at hk
  subst e2
  refine⟨fun e=>⟨by rw[(e3 e).1],(e3 e).2⟩,Kz.put (v:=v) hl hd R hp hn e1 hk⟩
 ·rcases q with ⟨v,c,hf,hk⟩|⟨hdr,c,_⟩
  rotate_left
  ·refine aN.mono (c rfl) ?_
   rintro t hp' ⟨v,h',e1,e2,hk⟩
   rw[V.seq_eq] at hk
   subst e2
   exact⟨fun e=>(by rw[hdr] at e; cases e),Kz.put (v:=qU (some true) v) hl hd R hp hn (e1.trans (ER v).symm) hk⟩
  rw[V.seq_eq] at hk
  refine aN.mono (c rfl) ?_
  rintro t hp' ⟨e1,e2⟩
  subst e2
  refine⟨fun _=>⟨rfl,by rw[e1]; exact V.mG v hf⟩,Kz.put (v:=qU (some true) v) hl hd R hp hn (by rw[e1]; exact(ER v).symm) hk⟩
theorem vH{N pn nx n:Nat}{K:Fm->Hz->Prop}{s:AS}{d:Option Nat}{dr:Bool}{g:Option Bool}{f:FuncId}{l:List V}(hl:s.fr.length=N)(hd: ∀ i,d=some i->i<N)(R:Rp m s.fr)(hh:s.hp=h.aj)(hp:s.pin=pn)(hn:s.nx=nx)
  (hg:g=none\/g=some true) (q:ah P dr g f l h n (fun v h'=>v.seq fun v=>K (jk d (qU g v) m) h') (fun _ _ _=>False)):mW P dr n d f (V.aT l) (Kz N pn nx K) s:=by
 rcases IC (KW:=fun _ _ _=>False) hl hd R hh hp hn hg ⟨q.ok.imp id fun h=>h.imp (fun⟨a,b,k,c⟩=>⟨a,b,k,c.mono fun _ _ ⟨_,_,_,_,h⟩=>h.elim⟩) (fun⟨a,b,d,c⟩=>⟨a,b,d,c.mono fun _ _ ⟨_,_,_,_,h⟩=>h.elim⟩)⟩ (fun _ v h' hk=>by rw[V.seq_eq] at hk; exact hk) with h|⟨_,k,⟨t,hp',hk⟩,_⟩
 ·exact h
 ·obtain⟨_,_,_,_,_,_,_,hk⟩:=hk; exact hk.elim
theorem ah.guard{dr:Bool}{f:FuncId}{args:List V}{n:Nat}{K:V->Hz->Prop}{KW:Nat->V->Hz->Prop}(q:ah P dr (some false) f args h n K KW): ∃ v,K v h:=by
 rcases q.ok with (⟨v,_,_,k⟩|⟨_,_,k⟩)|⟨h1,_⟩|⟨h1,_⟩
 ·exact⟨v,k⟩
 ·exact⟨_,k rfl⟩
 ·cases h1
 ·cases h1
theorem UH{dr fl:Bool}{a b c:Prop}:BX dr fl a b c↔(dr=false/\a)\/(dr=true/\bif fl then c else b):=by
 cases dr<;>cases fl<;>simp[BX]
theorem rC{dr fl:Bool}{C:Bool->Prop}(q:BX dr fl (C false) (C true) (C false)):C (dr&& !fl):=by
 cases dr<;>cases fl<;>exact q
theorem Qx{N pn nx n:Nat}{KK:Nat->Fm->Hz->Prop}{s:AS}{o:aP}{dr:Bool}(hl:s.fr.length=N)(hd: ∀ i,o.d=some i->i<N)(R:Rp m s.fr)(hh:s.hp=h.aj)(hp:s.pin=pn)(hn:s.nx=nx)
  (q:abL P dr nx n o KK m h):(gv o.g s=some true/\kD o s/\(mX P (o.dr dr) n o.d o.op (Kz N pn nx (KK 0)) s\/opW P dr n o.d o.op (fun s'=> ∃ k,Kz N pn (nx+k) (KK k) s') s))\/(gv o.g s=some false/\Kz N pn nx (KK 0) (s.put o.d T.un)):=by
 unfold abL at q
 split at q
 ·exact q.elim
 ·rename_i g hg
  cases hf:J7 nx o m with
  |false=>rw[hf] at q; exact q.elim
  |true =>
   rw[hf] at q
   simp only[cond_true] at q
   have hfl:kD o s:=Og R (by rw[hn]; exact hf)
   have un: ∀ {v:V} {h':Hz},h'=h->KK 0 (jk o.d (qU (some false) v) m) h'->Kz N pn nx (KK 0) (s.put o.d T.un):=fun {v h'} e hk=>by
    subst e
    have:=Kz.put (s:=s) (v:=qU (some false) v) (t:=T.un) hl hd R hp hn (Qv v).symm hk
    rw[<- hh] at this
    have e2:({(s.put o.d T.un) with hp:=s.hp}:AS)=s.put o.d T.un:=by
     cases o.d<;>rfl
    rw[e2] at this
    exact this
   rcases UF R hg with ⟨h1,h2⟩|⟨h1,rfl⟩
   ·refine .inl ⟨h1,hfl,?_⟩
    split at q
    ·rename_i f xs eo
     split at q
     ·rename_i l sd hb
      obtain⟨hs,q⟩:=ru q
      have ed:o.dr dr=(dr&& !o.fl):=by unfold aP.dr; rw[eo]
      rw[ed,eo]
      show mW P (dr&& !o.fl) n o.d f (xs.map s.ev) _ s\/(dr=false/\ ∃ k,jS P f (xs.map s.ev) s.hp n k _)
      rw[uM R hb (hs h2)]
      split at q
      ·rw[UH] at q
       rcases q with ⟨e,q⟩|q
       ·rw[e]
        exact(IC (g:=none) hl hd R hh hp hn h2 q (fun e=>by cases e)).imp id fun⟨a,k,b⟩=>⟨a,k,b.mono fun _ _ hk=>⟨k,hk⟩⟩
       ·obtain⟨hdt,q⟩:=q
        refine .inl (vH (g:=none) hl hd R hh hp hn h2 ?_)
        rw[hdt]
        cases hf2:o.fl<;>rw[hf2] at q<;>exact q
      ·rename_i bb _
       exact .inl (vH hl hd R hh hp hn h2 (rC (C:=fun dr=>ah P dr (some bb) f l h n (fun v h'=>v.seq fun v=>KK 0 (jk o.d (qU (some bb) v) m) h') (fun _ _ _=>False)) q))
     ·exact q.elim
    ·rename_i x xs eo
     split at q
     ·rename_i v0 l sd e1 hb
      split at q
      ·rename_i f cap s0 hb0
       obtain⟨hs,q⟩:=ru q
       have hs2:=Sd.nI.1 (hs h2)
       have ed:o.dr dr=(dr&& !o.fl):=by unfold aP.dr; rw[eo]
       rw[ed,eo]
       left
       simp only[mX]
       rw[R.ev e1,jB hb0 hs2.1]
       simp only[V.aG]
       rw[uM R hb hs2.2,<- yc]
       cases hbl:Nat.blt f 4096 with
       |true=>rw[hbl] at q; exact vH hl hd R hh hp hn h2 (rC (C:=fun dr=>ah P dr g f (l++cap) h n (fun v h'=>v.seq fun v=>KK 0 (jk o.d (qU g v) m) h') (fun _ _ _=>False)) q)
       |false=>rw[hbl] at q; exact vH (l:=.agg cap::l) hl hd R hh hp hn h2 (rC (C:=fun dr=>ah P dr g (f % 4096) (.agg cap::l) h n (fun v h'=>v.seq fun v=>KK 0 (jk o.d (qU g v) m) h') (fun _ _ _=>False)) q)
      ·exact q.elim
     ·exact q.elim
    ·rename_i hn1 hn2
     have ed:o.dr dr=dr:=by
      unfold aP.dr
      split
      ·rename_i e; exact absurd e (hn1 _ _)
      ·rename_i e; exact absurd e (hn2 _ _)
      ·rfl
     rw[ed]
     left
     split at q
     ·rename_i v sd hq
      obtain⟨hs,hk⟩:=ru q
      rw[V.seq_eq] at hk
      obtain⟨hqu,hc,ht⟩:=Xq R hh hq (hs h2)
      rw[dI hqu]
      refine⟨hc,?_⟩
      have:=Kz.put (s:=s) (v:=qU g v) (t:=qt s o.op) hl hd R hp hn (by rw[ht]; rcases h2 with rfl|rfl; rfl; exact(ER v).symm) hk
      rw[<- hh] at this
      have e2:({(s.put o.d (qt s o.op)) with hp:=s.hp}:AS)=s.put o.d (qt s o.op):=by cases o.d<;>rfl
      rw[e2] at this
      exact this
     ·split at q
      ·exact J8 hl hd R hh hp hn q
      ·rename_i b _
       rcases h2 with h2|h2
       ·cases h2
       ·cases h2
        obtain⟨qa,_⟩:=q
        exact J8 hl hd R hh hp hn (qa rfl)
   ·refine .inr ⟨h1,?_⟩
    split at q
    ·split at q
     ·obtain⟨hs,q⟩:=ru q
      obtain⟨v,hk⟩:=ah.guard (rC (C:=fun dr=>ah P dr (some false) _ _ h n (fun v h'=>v.seq fun v=>KK 0 (jk o.d (qU (some false) v) m) h') (fun _ _ _=>False)) q)
      rw[V.seq_eq] at hk
      exact un rfl hk
     ·exact q.elim
    ·split at q
     ·rename_i v0 l sd e1 hb
      split at q
      ·rename_i f cap s0 hb0
       obtain⟨hs,q⟩:=ru q
       cases hbl:Nat.blt f 4096 with
       |true =>
        rw[hbl] at q
        obtain⟨v,hk⟩:=ah.guard (rC (C:=fun dr=>ah P dr (some false) f (l++cap) h n (fun v h'=>v.seq fun v=>KK 0 (jk o.d (qU (some false) v) m) h') (fun _ _ _=>False)) q)
        rw[V.seq_eq] at hk
        exact un rfl hk
       |false =>
        rw[hbl] at q
        obtain⟨v,hk⟩:=ah.guard (rC (C:=fun dr=>ah P dr (some false) (f % 4096) (.agg cap::l) h n (fun v h'=>v.seq fun v=>KK 0 (jk o.d (qU (some false) v) m) h') (fun _ _ _=>False)) q)
        rw[V.seq_eq] at hk
        exact un rfl hk
      ·exact q.elim
     ·exact q.elim
    ·split at q
     ·obtain⟨hs,hk⟩:=ru q
      rw[V.seq_eq] at hk
      exact un rfl hk
     ·obtain⟨_,qb⟩:=q
      exact un (v:=.int 0) rfl (qb rfl)
theorem UJ{N pn nx n:Nat}{KK:Nat->Fm->Hz->Prop}{s:AS}{o:aP}{dr:Bool}(hl:s.fr.length=N)(hd: ∀ i,o.d=some i->i<N)(R:Rp m s.fr)(hh:s.hp=h.aj)(hp:s.pin=pn)(hn:s.nx=nx)
  (q:opZ P dr nx n o KK m h):(gv o.g s=some true/\kD o s/\(mX P (o.dr dr) n o.d o.op (mkK o s (Kz N pn nx (KK 0))) s\/opW P dr n o.d o.op (fun s'=> ∃ k,Kz N pn (nx+k) (KK k) s') s))\/(gv o.g s=some false/\Kz N pn nx (KK 0) (s.put o.d T.un)):=by
 unfold opZ at q
 cases had:o.ad with
 |false =>
  rw[had] at q
  rcases Qx hl hd R hh hp hn q with ⟨h1,h2,h3⟩|h1
  ·exact .inl ⟨h1,h2,h3.imp (iO fun s' _ _ h=>⟨fun e=>(by rw[had] at e; cases e),h⟩) id⟩
  ·exact .inr h1
 |true =>
  rw[had] at q
  simp only at q
  unfold adZ at q
  split at q
  ·rename_i f xs eo eg
   cases hf:(o.fl&&J7 nx o m) with
   |false=>rw[hf] at q; exact q.elim
   |true =>
    rw[hf] at q
    simp only[cond_true] at q
    rw[Bool.and_eq_true] at hf
    have hfl:kD o s:=Og R (by rw[hn]; exact hf.2)
    refine .inl ⟨by rw[eg]; rfl,hfl,.inl ?_⟩
    split at q
    ·rename_i l sd hb
     obtain⟨hs,q⟩:=ru q
     have ed:o.dr dr=false:=by unfold aP.dr; rw[eo,hf.1]; cases dr<;>rfl
     rw[ed,eo]
     show aN P f (xs.map s.ev) s.hp n _
     rw[uM R hb (hs (.inl rfl)),hh]
     have hx: ∀ {h':Hz} {s':AS},s'.hp=h'.aj->(h'=h\/ ∃ o,h'=(n,some o)::h/\h.get n=none)-> ∀ i ob,s.hp i=some ob->s'.hp i=some ob:=by
      intro h' s' e1 e2 i ob hi
      rw[e1]
      rw[hh] at hi
      rcases e2 with rfl|⟨o',rfl,hn0⟩
      ·exact hi
      ·rw[bD]
       have hne:i≠n:=by
        rintro rfl
        simp only[Hz.aj,hn0] at hi; cases hi
       simp only[upd,if_neg hne]; exact hi
     rcases q.ok with q|⟨_,e,_⟩|⟨_,_,hn0,q⟩
     ·refine aN.mono q ?_
      rintro t hp' ⟨v,h',e1,e2,e3,hk⟩
      rw[V.seq_eq] at hk
      subst e2
      exact⟨(fun e=>by cases e),fun _=>hx rfl (.inl (e3 rfl).1),Kz.put (v:=v) hl hd R hp hn e1 hk⟩
     ·cases e
     ·refine aN.mono q ?_
      rintro t hp' ⟨v,o',e1,e2,hk⟩
      rw[V.seq_eq] at hk
      subst e2
      exact⟨(fun e=>by cases e),fun _=>hx rfl (.inr ⟨o',rfl,hn0⟩),Kz.put (v:=v) hl hd R hp hn e1 hk⟩
    ·exact q.elim
  ·exact q.elim
theorem Oh{N pn ml:Nat}{K:Fm->Hz->Nat->Prop}{dr:Bool}: ∀ {nx:Nat} {ops:List aP} {i:Nat} {m:Fm} {h:Hz} {s:AS},LP N ops=true->s.fr.length=N->Rp m s.fr->s.hp=h.aj->s.pin=pn->s.nx=nx ->
  Oe P dr ml nx K ops i m h->qJ P dr ml (fun s=> ∃ m h,s.fr.length=N/\Rp m s.fr/\s.hp=h.aj/\s.pin=pn/\K m h s.nx) ops i s:=by
 intro nx ops
 induction ops generalizing nx with
 |nil =>
  intro i m h s _ hl R hh hp hn q
  exact⟨m,h,hl,R,hh,hp,by show K m h (s.nx+ml); rw[hn]; exact q⟩
 |cons o r ih =>
  intro i m h s hd hl R hh hp hn q
  simp only[LP,Bool.and_eq_true] at hd
  have hd1: ∀ j,o.d=some j->j<N:=fun j e=>by
   have:=hd.1
   rw[e] at this
   simpa using this
  simp only[qJ]
  rw[BL]
  have next: ∀ s',s'.nx=s.nx->s'.pin=s.pin->Kz N pn nx (Oe P dr ml nx K r (i+1)) s'->qJ P dr ml (fun s=> ∃ m h,s.fr.length=N/\Rp m s.fr/\s.hp=h.aj/\s.pin=pn/\K m h s.nx) r (i+1) s':=by
   rintro s' _ _ ⟨m',h',a1,a2,a3,a4,a5,a6⟩
   exact ih hd.2 a1 a2 a3 a4 a5 a6
  have acW: ∀ s',(∃ k,Kz N pn (nx+k) (Oe P dr ml (nx+k) K r (i+1)) s')->qJ P dr ml (fun s=> ∃ m h,s.fr.length=N/\Rp m s.fr/\s.hp=h.aj/\s.pin=pn/\K m h s.nx) r (i+1) s':=by
   rintro s' ⟨k,m',h',a1,a2,a3,a4,a5,a6⟩
   exact ih hd.2 a1 a2 a3 a4 a5 a6
  rcases UJ hl hd1 R hh hp hn q with ⟨h1,h2,h3⟩|⟨h1,h2⟩
  ·refine .inl ⟨h1,h2,?_⟩
   rw[hn]
   exact h3.imp (iO fun s' a b c=>⟨c.1,next s' a b c.2⟩) (NY acW)
  ·exact .inr ⟨h1,next _ (fJ _ _ _) (gJ _ _ _) h2⟩
theorem mZ{N pn:Nat}: ∀ {c:dR} {Q:Qz} {m:Fm} {h:Hz} {s:AS},oQ N c=true->s.fr.length=N->Rp m s.fr->s.hp=h.aj->s.pin=pn->az P N pn c Q m h s.nx->aw P c (Lift N pn Q) s:=by
 intro c
 induction c with
 |skip=>intro Q m h s _ hl R hh hp q; exact⟨m,h,hl,R,hh,hp,q⟩
 |reg dr ops =>
  intro Q m h s hd hl R hh hp q
  exact Oh hd hl R hh hp rfl q
 |seq a b ia ib =>
  intro Q m h s hd hl R hh hp q
  simp only[oQ,Bool.and_eq_true] at hd
  simp only[aw]
  refine jH ?_ (ia hd.1 hl R hh hp q)
  rintro e s' ⟨m',h',b1,b2,b3,b4,b5⟩
  cases e with
  |normal=>exact ib hd.2 b1 b2 b3 b4 b5
  |exit j=>exact⟨m',h',b1,b2,b3,b4,b5⟩
  |ret=>exact⟨m',h',b1,b2,b3,b4,b5⟩
 |cond c a b ia ib =>
  intro Q m h s hd hl R hh hp q
  simp only[oQ,Bool.and_eq_true] at hd
  simp only[az] at q
  simp only[aw]
  split at q
  ·rename_i t e
   rw[R.ev e]
   obtain⟨q1,q2⟩:=q
   exact⟨fun e=>ia hd.1 hl R hh hp (q1 e),fun e=>ib hd.2 hl R hh hp (q2 e)⟩
  ·exact q.elim
 |blk id b ib =>
  intro Q m h s hd hl R hh hp q
  simp only[aw]
  refine jH ?_ (ib hd hl R hh hp q)
  rintro e s' ⟨m',h',b1,b2,b3,b4,b5⟩
  cases e with
  |normal=>exact⟨m',h',b1,b2,b3,b4,b5⟩
  |ret=>exact⟨m',h',b1,b2,b3,b4,b5⟩
  |exit j =>
   simp only at b5 ⊢
   by_cases e:j=id
   ·subst e; simp at b5 ⊢; exact⟨m',h',b1,b2,b3,b4,b5⟩
   ·have e1:Nat.beq j id=false:=by
     cases hb:Nat.beq j id with
     |false=>rfl
     |true=>exact absurd (jh hb) e
    have e2:(j==id)=false:=by simpa using e
    rw[e1] at b5; rw[e2]
    exact⟨m',h',b1,b2,b3,b4,b5⟩
 |exit i=>intro Q m h s _ hl R hh hp q; exact⟨m,h,hl,R,hh,hp,q⟩
 |ret=>intro Q m h s _ hl R hh hp q; exact⟨m,h,hl,R,hh,hp,q⟩
 |loop b ib =>
  intro Q m h s _ hl R hh hp q
  have:=q.ok s.fr hl R
  rw[<- hh,<- hp] at this
  simp only[aw]
  rw[hp] at this
  have e:(⟨s.fr,s.hp,s.nx,pn⟩:AS)=s:=by rw[<- hp]
  rw[e] at this
  exact this
end
end Go.Ab
