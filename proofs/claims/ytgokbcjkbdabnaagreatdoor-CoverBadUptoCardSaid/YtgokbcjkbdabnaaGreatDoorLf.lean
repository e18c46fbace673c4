/-
 The typed layer, part 1: typed values, rows, objects. Definitions alone.
-/
import Derived.Test.YtgokbcjkbdabnaaGreatDoorLd
import Derived.Test.YtgokbcjkbdabnaaGreatDoorLc
namespace Go.Ab
inductive Dat where
 | lin (x : Lin)
 | thr (x : Thr)
 | rule (x : Rule)
 | prot (x : Prot)
 | cnt (x : Cnt)
 | prop (x : Prop')
 | clause (x : Clause)
 | elem (x : Elem)
inductive Rw where
 | ints (l : List Int)
 | bools (l : List Bool)
 | strs (l : List Str)
 | intss (l : List (List Int))
 | lins (l : List Lin)
 | thrs (l : List Thr)
 | rules (l : List Rule)
 | cnts (l : List Cnt)
 | clauses (l : List Clause)
 | elems (l : List Elem)
 | nil
inductive V where
 | int (n : Int)
 | bool (b : Bool)
 | u8 (n : Int)
 | str (s : Str)
 | dat (d : Dat)
 | agg (l : List V)
 | row (k : Nat) (full : Bool) (r : Rw)
 | rowv (k : Nat) (full : Bool) (l : List V)
 | ref (k : Nat) (v : V)
 | own (i : Nat)
 | ptr (i j off : Nat)
 | ovw (i lo hi : Nat)
 | fn (f : FuncId) (cap : List V)
 | tup (l : List V)
 | cnd (b : Bool) (v : V)
 | raw (t : T)
def Dat.toT : Dat → T
 | .lin x => eLin x
 | .thr x => eThr x
 | .rule x => eRule x
 | .prot x => eProt x
 | .cnt x => eCnt x
 | .prop x => eProp x
 | .clause x => eClause x
 | .elem x => eElem x
def Dat.kd : Dat → Nat
 | .lin _ => 5
 | .thr _ => 7
 | .rule _ => 19
 | .prot _ => 11
 | .cnt _ => 3
 | .prop _ => 7
 | .clause _ => 4
 | .elem _ => 3
def Rw.toL : Rw → List T
 | .ints l => l.map T.int
 | .bools l => l.map T.bool
 | .strs l => l.map eS
 | .intss l => l.map Go.Ab.ints
 | .lins l => l.map eLin
 | .thrs l => l.map eThr
 | .rules l => l.map eRule
 | .cnts l => l.map eCnt
 | .clauses l => l.map eClause
 | .elems l => l.map eElem
 | .nil => []
mutual
def V.toT : V → T
 | .int n => .int n
 | .bool b => .bool b
 | .u8 n => .lit (.int .u8 n)
 | .str s => eS s
 | .dat d => d.toT
 | .agg l => .agg (V.toL l)
 | .row k f r => .sl k f r.toL
 | .rowv k f l => .sl k f (V.toL l)
 | .ref k v => .ref k v.toT
 | .own i => .own i
 | .ptr i j off => .ptr i j off
 | .ovw i lo hi => .ovw i lo hi
 | .fn f cap => .fn f (V.toL cap)
 | .tup l => .tup (V.toL l)
 | .cnd b v => bif b then v.toT else T.un
 | .raw t => t
def V.toL : List V → List T
 | [] => []
 | v :: r => v.toT :: V.toL r
end
def Dat.cells : Dat → List V
 | .lin x => [.int x.c, .int x.n, .int x.t, .int x.f]
 | .thr x => [.int x.message, .int x.coef, .int x.bound.c, .int x.bound.n, .int x.bound.t, .int x.bound.f]
 | .rule x => [.str x.name, .int x.kind, .int x.fr, .int x.to, .int x.pfrom, .int x.pto, .row 0 false (.ints x.response), .row 7 false (.thrs x.guards), .row 0 false (.ints x.ex), .row 0 false (.ints x.all), .int x.read, .int x.write, .row 0 false (.ints x.send), .int x.pos, .row 0 false (.ints x.left), .row 0 false (.ints x.right), .row 0 false (.ints x.parent), .int x.direction]
 | .prot x => [.str x.name, .int x.topology, .row 0 false (.strs x.states), .row 0 false (.strs x.messages), .row 0 false (.strs x.values), .int x.fault, .row 5 false (.lins x.resilience), .row 0 false (.ints x.initial), .row 0 false (.ints x.leader), .row 19 false (.rules x.rules)]
 | .cnt x => [.row 0 false (.ints x.states), .int x.least]
 | .prop x => [.str x.name, .int x.kind, .row 0 false (.ints x.start), .row 3 false (.cnts x.bad), .row 0 false (.ints x.adjacent), .row 0 false (.ints x.goal)]
 | .clause x => [.row 0 false (.intss x.each), .row 0 false (.ints x.values), .row 0 false (.ints x.some)]
 | .elem x => [.int x.value, .row 0 false (.ints x.counts)]
theorem Dat.toT_cells (d : Dat) : d.toT = .agg (V.toL d.cells) := by cases d <;> rfl
theorem Dat.toT_kd (d : Dat) : d.toT.kd = d.kd := by cases d <;> rfl
def Rw.len : Rw → Nat
 | .ints l => l.length
 | .bools l => l.length
 | .strs l => l.length
 | .intss l => l.length
 | .lins l => l.length
 | .thrs l => l.length
 | .rules l => l.length
 | .cnts l => l.length
 | .clauses l => l.length
 | .elems l => l.length
 | .nil => 0
def Rw.lenV : Rw → V
 | .ints l => .int l.length
 | .bools l => .int l.length
 | .strs l => .int l.length
 | .intss l => .int l.length
 | .lins l => .int l.length
 | .thrs l => .int l.length
 | .rules l => .int l.length
 | .cnts l => .int l.length
 | .clauses l => .int l.length
 | .elems l => .int l.length
 | .nil => .int 0
def Rw.rng (n : Int) : Rw → Prop
 | .ints l => 0 ≤ n ∧ n < l.length
 | .bools l => 0 ≤ n ∧ n < l.length
 | .strs l => 0 ≤ n ∧ n < l.length
 | .intss l => 0 ≤ n ∧ n < l.length
 | .lins l => 0 ≤ n ∧ n < l.length
 | .thrs l => 0 ≤ n ∧ n < l.length
 | .rules l => 0 ≤ n ∧ n < l.length
 | .cnts l => 0 ≤ n ∧ n < l.length
 | .clauses l => 0 ≤ n ∧ n < l.length
 | .elems l => 0 ≤ n ∧ n < l.length
 | .nil => False
def Rw.rngE (n : Int) : Rw → Prop
 | .ints l => 0 ≤ n ∧ n ≤ l.length
 | .bools l => 0 ≤ n ∧ n ≤ l.length
 | .strs l => 0 ≤ n ∧ n ≤ l.length
 | .intss l => 0 ≤ n ∧ n ≤ l.length
 | .lins l => 0 ≤ n ∧ n ≤ l.length
 | .thrs l => 0 ≤ n ∧ n ≤ l.length
 | .rules l => 0 ≤ n ∧ n ≤ l.length
 | .cnts l => 0 ≤ n ∧ n ≤ l.length
 | .clauses l => 0 ≤ n ∧ n ≤ l.length
 | .elems l => 0 ≤ n ∧ n ≤ l.length
 | .nil => n = 0
def Rw.get (i : Nat) : Rw → V
 | .ints l => .int (l.getD i 0)
 | .bools l => .bool (l.getD i false)
 | .strs l => .str (l.getD i [])
 | .intss l => .row 0 false (.ints (l.getD i []))
 | .lins l => .dat (.lin (l.getD i default))
 | .thrs l => .dat (.thr (l.getD i default))
 | .rules l => .dat (.rule (l.getD i default))
 | .cnts l => .dat (.cnt (l.getD i default))
 | .clauses l => .dat (.clause (l.getD i default))
 | .elems l => .dat (.elem (l.getD i default))
 | .nil => .raw .any
def Rw.take (i : Nat) : Rw → Rw
 | .ints l => .ints (l.take i)
 | .bools l => .bools (l.take i)
 | .strs l => .strs (l.take i)
 | .intss l => .intss (l.take i)
 | .lins l => .lins (l.take i)
 | .thrs l => .thrs (l.take i)
 | .rules l => .rules (l.take i)
 | .cnts l => .cnts (l.take i)
 | .clauses l => .clauses (l.take i)
 | .elems l => .elems (l.take i)
 | .nil => .nil
def Rw.drop (i : Nat) : Rw → Rw
 | .ints l => .ints (l.drop i)
 | .bools l => .bools (l.drop i)
 | .strs l => .strs (l.drop i)
 | .intss l => .intss (l.drop i)
 | .lins l => .lins (l.drop i)
 | .thrs l => .thrs (l.drop i)
 | .rules l => .rules (l.drop i)
 | .cnts l => .cnts (l.drop i)
 | .clauses l => .clauses (l.drop i)
 | .elems l => .elems (l.drop i)
 | .nil => .nil
def Rw.app : Rw → Rw → Option Rw
 | r, .nil => some r
 | .nil, r => some r
 | .ints a, .ints b => some (.ints (a ++ b))
 | .bools a, .bools b => some (.bools (a ++ b))
 | .strs a, .strs b => some (.strs (a ++ b))
 | .intss a, .intss b => some (.intss (a ++ b))
 | .lins a, .lins b => some (.lins (a ++ b))
 | .thrs a, .thrs b => some (.thrs (a ++ b))
 | .rules a, .rules b => some (.rules (a ++ b))
 | .cnts a, .cnts b => some (.cnts (a ++ b))
 | .clauses a, .clauses b => some (.clauses (a ++ b))
 | .elems a, .elems b => some (.elems (a ++ b))
 | _, _ => none
def Rw.kd : Rw → Nat
 | .ints _ => 0
 | .bools _ => 0
 | .strs _ => 0
 | .intss _ => 0
 | .lins _ => 5
 | .thrs _ => 7
 | .rules _ => 19
 | .cnts _ => 3
 | .clauses _ => 4
 | .elems _ => 3
 | .nil => 0
def V.one : V → Option Rw
 | .int n => some (.ints [n])
 | .bool b => some (.bools [b])
 | .str s => some (.strs [s])
 | .row 0 false (.ints l) => some (.intss [l])
 | .dat (.lin x) => some (.lins [x])
 | .dat (.thr x) => some (.thrs [x])
 | .dat (.rule x) => some (.rules [x])
 | .dat (.cnt x) => some (.cnts [x])
 | .dat (.clause x) => some (.clauses [x])
 | .dat (.elem x) => some (.elems [x])
 | .agg [.int a, .row 0 false (.ints c)] => some (.elems [⟨a, c⟩])
 | .agg [.row 0 false (.ints c), .int a] => some (.cnts [⟨c, a⟩])
 | .agg [.row 0 false (.intss e), .row 0 false (.ints v), .row 0 false (.ints s)] => some (.clauses [⟨e, v, s⟩])
 | _ => none
def Rw.ofL : List V → Option Rw
 | [] => some .nil
 | v :: r => match v.one, Rw.ofL r with
  | some a, some b => a.app b
  | _, _ => none
inductive OV where
 | row (ty k : Nat) (r : Rw) (x : List V)
 | box (ty k : Nat) (v : V)
 | map (ty : Nat) (es : List (Int × V))
def OV.toOb : OV → Ob
 | .row ty k r x => ⟨ty, k, r.toL ++ V.toL x⟩
 | .box ty k v => ⟨ty, k, [v.toT]⟩
 | .map ty es => ⟨ty, mapK, es.map fun e => .tup [.int e.1, e.2.toT]⟩
abbrev Fm := List (Nat × V)
def Fm.get (i : Nat) : Fm → Option V
 | [] => none
 | (j, v) :: r => bif Nat.beq j i then some v else Fm.get i r
abbrev Hz := List (Nat × Option OV)
def Hz.get (i : Nat) : Hz → Option OV
 | [] => none
 | (j, o) :: r => bif Nat.beq j i then o else Hz.get i r
def Hz.toHp (h : Hz) : Hp := fun i => (h.get i).map OV.toOb
mutual
def ofT : T → V
 | .lit (.int .i64 n) => .int n
 | .lit (.int .u8 n) => .u8 n
 | .lit (.bool b) => .bool b
 | .lit (.string b) => .str b.data.toList
 | .sl k f [] => .row k f .nil
 | .agg l => .agg (ofL l)
 | .fn f l => .fn f (ofL l)
 | t => .raw t
def ofL : List T → List V
 | [] => []
 | t :: r => ofT t :: ofL r
end
def V.kd : V → Option Nat
 | .dat d => some d.kd
 | .agg l => some (l.length + 1)
 | .cnd _ _ => none
 | .raw _ => none
 | _ => some 0
def V.cells : V → Option (List V)
 | .dat d => some d.cells
 | .agg l => some l
 | .cnd _ _ => none
 | .raw _ => none
 | v => some [v]
def V.stOk (h : Hz) : V → Bool
 | .own i => (h.get i).isSome
 | .ptr i _ _ => (h.get i).isSome
 | .ovw i _ _ => (h.get i).isSome
 | .cnd _ _ => false
 | .raw _ => false
 | .tup _ => false
 | _ => true
def V.part (off : Nat) : Nat → V → Option V
 | 0, .dat d => d.cells[off]?
 | 0, .agg l => l[off]?
 | k + 1, .dat (.thr x) => bif (Nat.beq off 2) && (Nat.beq k 4) then some (.dat (.lin x.bound)) else none
 | k + 1, .agg l => some (.agg ((l.drop off).take k))
 | _, _ => none
end Go.Ab
namespace Go.Ab
inductive VC (p k : Prop) : Prop where
 | mk : p → k → VC p k
inductive Fork (b : Bool) (x y : Prop) : Prop where
 | mk : (b = true → x) → (b = false → y) → Fork b x y
inductive Sd where
 | no
 | yes (p : Prop)
def Sd.holds : Sd → Prop
 | .no => True
 | .yes p => p
def Sd.and : Sd → Sd → Sd
 | .no, b => b
 | a, .no => a
 | .yes p, .yes q => .yes (p ∧ q)
def Sd.imp (t : Bool) (b : Bool) : Sd → Sd
 | .no => .no
 | .yes p => .yes (t = b → p)
def Sd.vc (g : Option Bool) (k : Prop) : Sd → Prop
 | .no => k
 | .yes p => match g with
  | none => VC p k
  | some b => VC (b = true → p) k
def V.bare : V → V × Sd
 | .cnd c v => (v, .yes (c = true))
 | v => (v, .no)
mutual
def V.free : V → Bool
 | .own _ => false
 | .ptr _ _ _ => false
 | .ovw _ _ _ => false
 | .cnd _ _ => false
 | .raw t => t.free
 | .agg l => V.freeL l
 | .fn _ l => V.freeL l
 | .tup l => V.freeL l
 | _ => true
def V.freeL : List V → Bool
 | [] => true
 | v :: r => V.free v && V.freeL r
end
def evX (m : Fm) : X → Option V
 | .t n => m.get n
 | .c t => some (ofT t)
def evL (m : Fm) : List X → Option (List V)
 | [] => some []
 | x :: r => match evX m x, evL m r with
  | some v, some l => some (v :: l)
  | _, _ => none
abbrev Res := Option (V × Sd)
def qz1 (m : Fm) (x : X) (f : V → Res) : Res :=
 match evX m x with
 | some v => match v.bare with
  | (u, s) => match f u with
   | some (r, s') => some (r, s.and s')
   | none => none
 | none => none
def qz2 (m : Fm) (x y : X) (f : V → V → Res) : Res := qz1 m x fun u => qz1 m y fun v => f u v
def okI (n : Int) : Prop := -9223372036854775808 ≤ n ∧ n < 9223372036854775808
def binZ (op : BinOp) : V → V → Res
 | .int a, .int b => match op with
  | .add => some (.int (a + b), .yes (okI (a + b)))
  | .sub => some (.int (a - b), .yes (okI (a - b)))
  | .mul => some (.int (a * b), .yes (okI (a * b)))
  | .eql => some (.bool (a == b), .no)
  | .neq => some (.bool (a != b), .no)
  | .lss => some (.bool (decide (a < b)), .no)
  | .leq => some (.bool (decide (a ≤ b)), .no)
  | .gtr => some (.bool (decide (b < a)), .no)
  | .geq => some (.bool (decide (b ≤ a)), .no)
  | _ => none
 | .u8 a, .u8 b => match op with
  | .eql => some (.bool (a == b), .no)
  | .neq => some (.bool (a != b), .no)
  | .lss => some (.bool (decide (a < b)), .no)
  | .leq => some (.bool (decide (a ≤ b)), .no)
  | .gtr => some (.bool (decide (b < a)), .no)
  | .geq => some (.bool (decide (b ≤ a)), .no)
  | _ => none
 | .str a, .str b => match op with
  | .eql => some (.bool (a == b), .no)
  | .neq => some (.bool (!(a == b)), .no)
  | _ => none
 | .raw (.lit (.int .u64 a)), .raw (.lit (.int .u64 1)) => match op with
  | .shr => some (.raw (.lit (.int .u64 (a / 2))), .no)
  | _ => none
 | _, _ => none
def isTrueC : X → Bool
 | .c (.lit (.bool true)) => true
 | _ => false
def isFalseC : X → Bool
 | .c (.lit (.bool false)) => true
 | _ => false
def pickZ (t : Bool) (xa xb : X) : V → V → Option V
 | .bool x, .bool y => bif isTrueC xa then some (.bool (t || y)) else bif isFalseC xb then some (.bool (t && x)) else some (.bool (bif t then x else y))
 | .int x, .int y => some (.int (bif t then x else y))
 | .str x, .str y => some (.str (bif t then x else y))
 | _, _ => none
def pickS (t : Bool) (xa xb : X) (a b : V × Sd) : Res :=
 match a, b with
 | (a, sa), (b, sb) => match pickZ t xa xb a b with
  | some v => some (v, (sa.imp t true).and (sb.imp t false))
  | none => none
def guardO {α : Type} (b : Bool) (x : Option α) : Option α := bif b then x else none
def V.ofPart (k : Nat) : Option V → Res
 | some u => some (.ref k u, .no)
 | none => none
def V.ofPartV : Option V → Res
 | some u => some (u, .no)
 | none => none
def faZ (h : Hz) (off k : Nat) : V → Res
 | .ref kt v => guardO (!(Nat.beq kt 0) && partOk (szK kt) off k) (V.ofPart k (v.part off k))
 | .ptr i j o => guardO (h.get i).isSome (some (.ptr i j (o + off), .no))
 | _ => none
def fvZ (off k : Nat) (v : V) : Res :=
 match v.kd with
 | some kt => guardO (!(Nat.beq kt 0) && partOk (szK kt) off k) (V.ofPartV (v.part off k))
 | none => none
def nthV : List V → Nat → Option V
 | [], _ => none
 | v :: _, 0 => some v
 | _ :: r, n + 1 => nthV r n
def iaZ (h : Hz) (k : Nat) : V → V → Res
 | .rowv k' _ l, .int n => match nthV l n.toNat with
  | some v => guardO (Nat.beq k' k) (some (.ref k v, .yes (0 ≤ n)))
  | none => none
 | .row k' _ r, .int n => guardO (Nat.beq k' k) (some (.ref k (r.get n.toNat), .yes (r.rng n)))
 | .own o, .int n => match h.get o with
  | some (.row _ k' r []) => guardO (Nat.beq k' k) (some (.ptr o n.toNat 0, .yes (r.rng n)))
  | _ => none
 | .ovw o lo hi, .int n => match h.get o with
  | some (.row _ k' _ []) => guardO (Nat.beq k' k) (some (.ptr o (lo + n.toNat) 0, .yes (0 ≤ n ∧ n < (hi - lo : Nat))))
  | _ => none
 | _, _ => none
def chZ : V → V → Res
 | .str s, .int n => some (.u8 (s.getD n.toNat 0).toNat, .yes (0 ≤ n ∧ n < s.length))
 | _, _ => none
def ldB (k j off ko : Nat) (v : V) : Res :=
 bif Nat.beq j 0 then (bif Nat.beq off 0 && Nat.beq ko k then some (v, .no) else guardO (!(Nat.beq ko 0) && partOk (szK ko) off k) (V.ofPartV (v.part off k))) else none
def ldR (k j off ko : Nat) (r : Rw) : Res :=
 bif Nat.beq off 0 && Nat.beq ko k then some (r.get j, .yes (r.rng j)) else
  match (r.get j).part off k with
  | some u => guardO (!(Nat.beq ko 0) && partOk (szK ko) off k) (some (u, .yes (r.rng j)))
  | none => none
def ldZ (h : Hz) (k : Nat) : V → Res
 | .ref k' v => guardO (Nat.beq k' k && Nat.blt 0 (szK k)) (some (v, .no))
 | .ptr i j off => match h.get i with
  | some (.box _ ko v) => ldB k j off ko v
  | some (.row _ ko r []) => ldR k j off ko r
  | _ => none
 | _ => none
def ncZ (h : Hz) : V → Res
 | .ref k v => some (.ref k v, .no)
 | .ptr i j o => guardO (h.get i).isSome (some (.ptr i j o, .no))
 | .fn f l => some (.fn f l, .no)
 | _ => none
def lenZ (h : Hz) (str : Bool) : V → Res
 | .row _ _ r => guardO (!str) (some (r.lenV, .no))
 | .rowv _ _ l => guardO (!str) (some (.int l.length, .no))
 | .str s => guardO str (some (.int s.length, .no))
 | .own o => match h.get o with
  | some (.row _ k r x) => guardO (!str && !(Nat.beq k mapK)) (match x with | [] => some (r.lenV, .no) | x => some (.int (r.len + x.length), .no))
  | _ => none
 | .ovw o lo hi => guardO (!str && (h.get o).isSome) (some (.int (hi - lo : Nat), .no))
 | _ => none
def mxZ : V → V → Res
 | .int a, .int b => some (.int (max a b), .no)
 | _, _ => none
def mnZ : V → V → Res
 | .int a, .int b => some (.int (min a b), .no)
 | _, _ => none
def bareL (m : Fm) : List X → Option (List V × Sd)
 | [] => some ([], .no)
 | x :: r => match evX m x, bareL m r with
  | some v, some (l, s) => match v.bare with | (u, s') => some (u :: l, s'.and s)
  | _, _ => none
def fillZ : List (Nat × Nat × X) → List V → List V → Option (List V)
 | [], [], z => some z
 | (off, n, _) :: ps, v :: vs, z => match v.cells with
  | some c => guardO (Nat.beq c.length n && Nat.ble (off + n) z.length) (fillZ ps vs (z.take off ++ c ++ z.drop (off + n)))
  | none => none
 | _, _, _ => none
def stOkL (h : Hz) : List V → Bool
 | [] => true
 | v :: r => v.stOk h && stOkL h r
def mkZ (m : Fm) (h : Hz) (z : List T) (ps : List (Nat × Nat × X)) : Res :=
 match bareL m (ps.map fun p => p.2.2) with
 | some (vs, s) => match fillZ ps vs (ofL z) with
  | some l => guardO (stOkL h vs) (some (.agg l, s))
  | none => none
 | none => none
def kdL (k : Nat) : List V → Bool
 | [] => true
 | v :: r => (match v.kd with | some k' => Nat.beq k' k | none => false) && kdL k r
def putZ (n : Nat) : List (Nat × X) → List V → List V → Option (List V)
 | [], [], z => some z
 | (i, _) :: ps, v :: vs, z => guardO (Nat.blt i n) (putZ n ps vs (z.set i v))
 | _, _, _ => none
def msZ (m : Fm) (h : Hz) (k : Nat) (z : T) (n : Nat) (ps : List (Nat × X)) : Res :=
 match bareL m (ps.map fun p => p.2) with
 | some (vs, s) => match putZ n ps vs (List.replicate n (ofT z)) with
  | some l => guardO ((z.kd == k) && z.free && kdL k vs && stOkL h vs && V.freeL vs && Nat.ble (n * szK k) 16777216 && Nat.blt 0 (szK k))
    (match Rw.ofL l with
    | some r => some (.row k true r, s)
    | none => some (.rowv k true l, s))
  | none => none
 | none => none
def kOk (k k' : Nat) : Rw → Bool
 | .nil => true
 | _ => Nat.beq k' k
def bareO (m : Fm) : Option X → Option (Option V × Sd)
 | none => some (none, .no)
 | some x => match evX m x with
  | some v => match v.bare with | (u, s) => some (some u, s)
  | none => none
def rowSl (k k' : Nat) (f : Bool) (r : Rw) : Option V → Option V → Option V → Res
 | none, none, none => guardO (kOk k k' r) (some (.row k f r, .no))
 | some (.int a), none, none => guardO (kOk k k' r) (some (.row k f (r.drop a.toNat), .yes (r.rngE a)))
 | none, some (.int b), none => guardO (kOk k k' r) (some (.row k (f && decide (b = r.len)) (r.take b.toNat), .yes (r.rngE b)))
 | some (.int a), some (.int b), none => guardO (kOk k k' r) (some (.row k false ((r.take b.toNat).drop a.toNat), .yes (0 ≤ a ∧ a ≤ b ∧ r.rngE b)))
 | none, some (.int b), some (.int c) => guardO (kOk k k' r) (some (.row k (decide (b = c)) (r.take b.toNat), .yes (0 ≤ b ∧ b ≤ c ∧ r.rngE c)))
 | _, _, _ => none
def ownSl (k i ko : Nat) (r : Rw) : Option V → Option V → Option V → Res
 | some (.int a), none, none => guardO (Nat.beq ko k) (some (.ovw i a.toNat r.len, .yes (r.rngE a)))
 | none, some (.int b), none => guardO (Nat.beq ko k) (some (.ovw i 0 b.toNat, .yes (r.rngE b)))
 | some (.int a), some (.int b), none => guardO (Nat.beq ko k) (some (.ovw i a.toNat b.toNat, .yes (0 ≤ a ∧ a ≤ b ∧ r.rngE b)))
 | _, _, _ => none
def ownSlX (k i ko : Nat) (r : Rw) (xs : List V) : Option V → Option V → Option V → Res
 | none, some (.int b), none => guardO (Nat.beq ko k) (some (.ovw i 0 b.toNat, .yes (r.rngE b)))
 | lo, hi, mx => match xs with | [] => ownSl k i ko r lo hi mx | _ => none
def slZ (h : Hz) (x : Bool) (k : Nat) (v : V) (lo hi mx : Option V) : Res :=
 match v with
 | .row k' f r => rowSl k k' f r lo hi mx
 | .own i => bif x then (match h.get i with
  | some (.row _ ko r xs) => ownSlX k i ko r xs lo hi mx
  | _ => none) else none
 | _ => none
def slX (m : Fm) (h : Hz) (b : Bool) (k : Nat) (x : X) (lo hi mx : Option X) : Res :=
 qz1 m x fun v => match bareO m lo, bareO m hi, bareO m mx with
  | some (lo, s1), some (hi, s2), some (mx, s3) => match slZ h b k v lo hi mx with
   | some (u, s) => some (u, s1.and (s2.and (s3.and s)))
   | none => none
  | _, _, _ => none
def ssZ (s : Str) : Option V → Option V → Res
 | some (.int a), none => some (.str (s.drop a.toNat), .yes (0 ≤ a ∧ a ≤ s.length))
 | none, some (.int b) => some (.str (s.take b.toNat), .yes (0 ≤ b ∧ b ≤ s.length))
 | some (.int a), some (.int b) => some (.str ((s.take b.toNat).drop a.toNat), .yes (0 ≤ a ∧ a ≤ b ∧ b ≤ s.length))
 | _, _ => none
def ssX (m : Fm) (x : X) (lo hi : Option X) : Res :=
 qz1 m x fun v => match v, bareO m lo, bareO m hi with
  | .str s, some (lo, s1), some (hi, s2) => match ssZ s lo hi with
   | some (u, s) => some (u, s1.and (s2.and s))
   | none => none
  | _, _, _ => none
def exZ (i : Nat) : V → Res
 | .tup l => match l[i]? with | some v => some (v, .no) | none => none
 | _ => none
def eqsZ (ne : Bool) (n : Nat) : V → V → Res
 | .dat (.lin x), .dat (.lin y) => guardO (Nat.beq n 4) (some (.bool (bif ne then !(x == y) else x == y), .no))
 | .dat (.thr x), .dat (.thr y) => guardO (Nat.beq n 6) (some (.bool (bif ne then !(x == y) else x == y), .no))
 | _, _ => none
def mfZ (m : Fm) (h : Hz) (f : FuncId) (cap : List X) : Res :=
 match bareL m cap with
 | some (l, s) => guardO (stOkL h l && kdL 0 l && Nat.blt f 4096) (some (.fn f l, s))
 | none => none
def mbZ (f : FuncId) : V → Res
 | .agg l => guardO (Nat.blt f 4096) (some (.fn (f + 4096) l, .no))
 | .dat d => guardO (Nat.blt f 4096) (some (.fn (f + 4096) d.cells, .no))
 | _ => none
def capZ : V → Res
 | .row _ true r => some (r.lenV, .no)
 | _ => none
def qz (m : Fm) (h : Hz) : AOp → Res
 | .mv x => match evX m x with | some v => some (v, .no) | none => none
 | .pick c a b => qz1 m c fun c => match c, evX m a, evX m b with
  | .bool t, some va, some vb => pickS t a b va.bare vb.bare
  | _, _, _ => none
 | .bin op x y => qz2 m x y (binZ op)
 | .bb ne x y => qz2 m x y fun x y => match x, y with
  | .bool a, .bool b => some (.bool (bif ne then !(a == b) else a == b), .no)
  | _, _ => none
 | .not x => qz1 m x fun v => match v with | .bool b => some (.bool !b, .no) | _ => none
 | .conv .i64 x => qz1 m x fun v => match v with
  | .int n => some (.int n, .yes (okI n))
  | .u8 n => some (.int n, .yes (okI n))
  | .raw (.lit (.int .u64 n)) => some (.int n, .yes (okI n))
  | _ => none
 | .conv .u64 x => qz1 m x fun v => match v with
  | .int n => some (.raw (.lit (.int .u64 n)), .yes (0 ≤ n ∧ n < 18446744073709551616))
  | _ => none
 | .fa off k x => qz1 m x (faZ h off k)
 | .fv off k x => qz1 m x (fvZ off k)
 | .ia k x i => qz2 m x i (iaZ h k)
 | .ch x i => qz2 m x i chZ
 | .ld k x => qz1 m x (ldZ h k)
 | .nc x => qz1 m x (ncZ h)
 | .len s x => qz1 m x (lenZ h s)
 | .mx x y => qz2 m x y mxZ
 | .mn x y => qz2 m x y mnZ
 | .mk z ps => mkZ m h z ps
 | .ms _ k z n ps => msZ m h k z n ps
 | .sl k x lo hi mx => slX m h false k x lo hi mx
 | .slx k x lo hi mx => slX m h true k x lo hi mx
 | .ss x lo hi => ssX m x lo hi
 | .ex x i => qz1 m x (exZ i)
 | .mf f cap => mfZ m h f cap
 | .eqs ne n x y => qz2 m x y (eqsZ ne n)
 | .capx x => qz1 m x capZ
 | .mb f x => qz1 m x (mbZ f)
 | _ => none
end Go.Ab
namespace Go.Ab
theorem eS_of (b : ByteArray) : eS b.data.toList = .lit (.string b) := by
 unfold eS bs; simp
mutual
theorem ofT_toT : (t : T) → (ofT t).toT = t
 | .lit v => by
  cases v with
  | int k n => cases k <;> simp [ofT, V.toT]
  | bool b => simp [ofT, V.toT]
  | string b => simp only [ofT, V.toT]; exact eS_of b
  | _ => simp [ofT, V.toT]
 | .agg l => by simp only [ofT, V.toT]; rw [ofL_toL l]
 | .sl k f l => by cases l <;> simp [ofT, V.toT, Rw.toL]
 | .ref k t => by simp [ofT, V.toT]
 | .own i => by simp [ofT, V.toT]
 | .ptr i j k => by simp [ofT, V.toT]
 | .ovw i j k => by simp [ofT, V.toT]
 | .fn f l => by simp only [ofT, V.toT]; rw [ofL_toL l]
 | .tup l => by simp [ofT, V.toT]
 | .any => by simp [ofT, V.toT]
theorem ofL_toL : (l : List T) → V.toL (ofL l) = l
 | [] => rfl
 | t :: r => by simp only [ofL, V.toL]; rw [ofT_toT t, ofL_toL r]
end
theorem toL_map (l : List V) : V.toL l = l.map V.toT := by
 induction l with
 | nil => rfl
 | cons v r ih => simp [V.toL, ih]
theorem toL_length (l : List V) : (V.toL l).length = l.length := by rw [toL_map]; simp
theorem toL_append (a b : List V) : V.toL (a ++ b) = V.toL a ++ V.toL b := by simp [toL_map]
theorem toL_take (a : List V) (n : Nat) : V.toL (a.take n) = (V.toL a).take n := by simp [toL_map]
theorem toL_drop (a : List V) (n : Nat) : V.toL (a.drop n) = (V.toL a).drop n := by simp [toL_map]
def Rp (m : Fm) (fr : List T) : Prop := ∀ i v, m.get i = some v → fr[i]? = some v.toT
theorem Rp.getD {m : Fm} {fr : List T} (R : Rp m fr) {i : Nat} {v : V} {d : T} (h : m.get i = some v) : fr.getD i d = v.toT := by
 rw [List.getD_eq_getElem?_getD, R i v h]; rfl
theorem Rp.ev {m : Fm} {s : AS} (R : Rp m s.fr) {x : X} {v : V} (h : evX m x = some v) : s.ev x = v.toT := by
 cases x with
 | t n => exact R.getD h
 | c t => simp only [evX, Option.some.injEq] at h; subst h; exact (ofT_toT t).symm
theorem bare_sound {v u : V} {s : Sd} (h : v.bare = (u, s)) (hs : s.holds) : v.toT = u.toT := by
 unfold V.bare at h
 split at h
 ·cases h; simp only [Sd.holds] at hs; simp [V.toT, hs]
 ·cases h; rfl
theorem Sd.and_holds {a b : Sd} : (a.and b).holds ↔ a.holds ∧ b.holds := by cases a <;> cases b <;> simp [Sd.and, Sd.holds]
theorem Sd.imp_holds {t b : Bool} {s : Sd} : (s.imp t b).holds ↔ (t = b → s.holds) := by cases s <;> simp [Sd.imp, Sd.holds]
theorem qz1_inv {m : Fm} {s : AS} (R : Rp m s.fr) {x : X} {f : V → Res} {r : V} {sd : Sd} (h : qz1 m x f = some (r, sd)) (hs : sd.holds) : ∃ u s', f u = some (r, s') ∧ s'.holds ∧ s.ev x = u.toT := by
 unfold qz1 at h
 split at h
 ·rename_i v hv
  split at h
  rename_i u s0 hb
  split at h
  ·rename_i r' s' hf
   cases h
   rw [Sd.and_holds] at hs
   exact ⟨u, s', hf, hs.2, by rw [R.ev hv, bare_sound hb hs.1]⟩
  ·cases h
 ·cases h
theorem qz2_inv {m : Fm} {s : AS} (R : Rp m s.fr) {x y : X} {f : V → V → Res} {r : V} {sd : Sd} (h : qz2 m x y f = some (r, sd)) (hs : sd.holds) : ∃ u v s', f u v = some (r, s') ∧ s'.holds ∧ s.ev x = u.toT ∧ s.ev y = v.toT := by
 obtain ⟨u, s', h1, h2, h3⟩ := qz1_inv R h hs
 obtain ⟨v, s'', h4, h5, h6⟩ := qz1_inv R h1 h2
 exact ⟨u, v, s'', h4, h5, h3, h6⟩
theorem guardO_inv {α : Type} {b : Bool} {x : Option α} {y : α} (h : guardO b x = some y) : b = true ∧ x = some y := by
 cases b <;> simp [guardO] at h; exact ⟨rfl, h⟩
theorem wrapU {n : Int} (h1 : 0 ≤ n) (h2 : n < 18446744073709551616) : IntKind.u64.wrap n = n := by
 have e : IntKind.u64.wrap n = (if (false && decide (n % 18446744073709551616 ≥ 9223372036854775808)) = true then n % 18446744073709551616 - 18446744073709551616 else n % 18446744073709551616) := rfl
 rw [e]
 simp only [Bool.false_and, Bool.false_eq_true, if_false]
 omega
theorem wrapI {n : Int} (h : okI n) : IntKind.i64.wrap n = n := wrap64 h.1 h.2
theorem Rw.len_toL (r : Rw) : r.toL.length = r.len := by cases r <;> simp [Rw.toL, Rw.len]
theorem Rw.lenV_eq (r : Rw) : r.lenV = .int r.len := by cases r <;> rfl
theorem Rw.rng_iff {n : Int} {r : Rw} : r.rng n ↔ (0 ≤ n ∧ n < r.len) := by cases r <;> simp [Rw.rng, Rw.len] <;> omega
theorem Rw.rngE_iff {n : Int} {r : Rw} : r.rngE n ↔ (0 ≤ n ∧ n ≤ r.len) := by cases r <;> simp [Rw.rngE, Rw.len] <;> omega
theorem getD_map' {α : Type} {f : α → T} {l : List α} {i : Nat} {d : α} (h : i < l.length) : (l.map f).getD i .any = f (l.getD i d) := by
 simp [List.getD_eq_getElem?_getD, h]
theorem Rw.get_toT {r : Rw} {i : Nat} (h : i < r.len) : r.toL.getD i .any = (r.get i).toT := by
 cases r <;> simp only [Rw.len] at h <;> simp only [Rw.toL, Rw.get, V.toT, Dat.toT, Rw.toL] <;> first | exact getD_map' h | omega
theorem Rw.take_toL (r : Rw) (n : Nat) : (r.take n).toL = r.toL.take n := by cases r <;> simp [Rw.take, Rw.toL]
theorem Rw.drop_toL (r : Rw) (n : Nat) : (r.drop n).toL = r.toL.drop n := by cases r <;> simp [Rw.drop, Rw.toL]
theorem Rw.app_toL {a b c : Rw} (h : a.app b = some c) : c.toL = a.toL ++ b.toL := by
 unfold Rw.app at h
 split at h <;> first | (cases h; done) | (cases h; simp [Rw.toL])
theorem V.one_toL {v : V} {r : Rw} (h : v.one = some r) : r.toL = [v.toT] := by
 unfold V.one at h
 split at h <;> first | (cases h; done) | (cases h; simp [Rw.toL, V.toT, V.toL, Dat.toT, eElem, eCnt, eClause])
theorem Rw.ofL_toL : ∀ {l : List V} {r : Rw}, Rw.ofL l = some r → r.toL = V.toL l := by
 intro l
 induction l with
 | nil => intro r h; cases h; rfl
 | cons v l ih =>
  intro r h
  simp only [Rw.ofL] at h
  split at h
  ·rename_i a b h1 h2
   rw [Rw.app_toL h, V.one_toL h1, ih h2]; rfl
  ·cases h
theorem V.kd_toT {v : V} {k : Nat} (h : v.kd = some k) : v.toT.kd = k := by
 cases v with
 | dat d => cases h; exact Dat.toT_kd d
 | _ => simp only [V.kd, Option.some.injEq, reduceCtorEq] at h <;> subst h <;> simp [V.toT, T.kd, eS, toL_length]
theorem V.cells_toT {v : V} {l : List V} (h : v.cells = some l) : v.toT.cells = V.toL l := by
 cases v <;> simp only [V.cells, Option.some.injEq, reduceCtorEq] at h <;> subst h <;> simp [V.toT, Dat.toT_cells, T.cells, eS, V.toL]
theorem Hz.some_toHp {h : Hz} {i : Nat} : (h.toHp i).isSome = (h.get i).isSome := by simp [Hz.toHp]
theorem V.stOk_toT {h : Hz} {v : V} (hv : v.stOk h = true) : v.toT.stOk h.toHp = true := by
 cases v <;> simp only [V.stOk, Bool.false_eq_true] at hv <;> simp [V.toT, T.stOk, T.oneC, eS, Value.oneCell', Hz.some_toHp, hv]
 rename_i d
 cases d <;> rfl
theorem V.oneC_toT {h : Hz} {v : V} (hv : v.stOk h = true) (hk : v.kd = some 0) : v.toT.oneC h.toHp = true := by
 cases v <;> simp only [V.stOk, Bool.false_eq_true] at hv <;> simp only [V.kd, Option.some.injEq, Nat.succ_ne_zero] at hk <;> simp [V.toT, T.oneC, eS, Value.oneCell', Hz.some_toHp, hv]
 rename_i d
 cases d <;> cases hk
theorem Dat.free (d : Dat) : d.toT.free = true := by cases d <;> rfl
mutual
theorem V.free_toT : (v : V) → v.free = true → v.toT.free = true
 | .int _, _ => by simp [V.toT, T.free]
 | .bool _, _ => by simp [V.toT, T.free]
 | .u8 _, _ => by simp [V.toT, T.free]
 | .str _, _ => by simp [V.toT, T.free, eS]
 | .dat d, _ => by simp only [V.toT]; exact d.free
 | .agg l, h => by simp only [V.toT, T.free]; simp only [V.free] at h; exact V.freeL_toL l h
 | .row _ _ _, _ => by simp [V.toT, T.free]
 | .rowv _ _ _, _ => by simp [V.toT, T.free]
 | .ref _ _, _ => by simp [V.toT, T.free]
 | .own _, h => by simp [V.free] at h
 | .ptr _ _ _, h => by simp [V.free] at h
 | .ovw _ _ _, h => by simp [V.free] at h
 | .fn _ l, h => by simp only [V.toT, T.free]; simp only [V.free] at h; exact V.freeL_toL l h
 | .tup l, h => by simp only [V.toT, T.free]; simp only [V.free] at h; exact V.freeL_toL l h
 | .cnd _ _, h => by simp [V.free] at h
 | .raw t, h => by simp only [V.toT]; simpa only [V.free] using h
theorem V.freeL_toL : (l : List V) → V.freeL l = true → T.freeL (V.toL l) = true
 | [], _ => by simp [V.toL, T.freeL]
 | v :: r, h => by
  simp only [V.freeL, Bool.and_eq_true] at h
  simp only [V.toL, T.freeL, Bool.and_eq_true]
  exact ⟨V.free_toT v h.1, V.freeL_toL r h.2⟩
end
theorem getElem_toL {l : List V} {i : Nat} {u : V} (h : l[i]? = some u) : (V.toL l).getD i .any = u.toT := by
 rw [toL_map, List.getD_eq_getElem?_getD, List.getElem?_map, h]; rfl
theorem V.part_toT {off k : Nat} {v u : V} (h : v.part off k = some u) : v.toT.part off k = u.toT := by
 unfold V.part at h
 split at h
 ·simp only [V.toT, Dat.toT_cells, T.part, T.cells]; exact getElem_toL h
 ·simp only [V.toT, T.part, T.cells]; exact getElem_toL h
 ·rename_i k x
  cases hb : (Nat.beq off 2) && (Nat.beq k 4) with
  | false => rw [hb] at h; cases h
  | true =>
   rw [hb] at h
   simp only [Bool.and_eq_true, Nat.beq_eq] at hb
   obtain ⟨rfl, rfl⟩ := hb
   cases h; rfl
 ·cases h
  simp only [V.toT, T.part, T.cells, toL_take, toL_drop]
 ·cases h
theorem beqN {a b : Nat} (h : Nat.beq a b = true) : a = b := Nat.eq_of_beq_eq_true h
end Go.Ab
namespace Go.Ab
section
variable {m : Fm} {h : Hz} {s : AS}
def Ok (s : AS) (op : AOp) (v : V) : Prop := qc s op ∧ qt s op = v.toT
theorem binZ_ok {op : BinOp} {x y : X} {u v r : V} {sd : Sd} (q : binZ op u v = some (r, sd)) (hs : sd.holds) (h1 : s.ev x = u.toT) (h2 : s.ev y = v.toT) : Ok s (.bin op x y) r := by
 unfold Ok; simp only [qc, qt]; rw [h1, h2]
 unfold binZ at q
 split at q
 ·rename_i a b
  split at q <;> first | (cases q; done) | (cases q; simp only [Sd.holds] at hs; simp [V.toT, binV, kEq, wrapI, hs])
 ·split at q <;> first | (cases q; done) | (cases q; simp [V.toT, binV, kEq])
 ·split at q <;> first | (cases q; done) | (cases q; simp [V.toT, binV, eS, bs_toList])
 ·split at q
  ·cases q
   refine ⟨rfl, ?_⟩
   simp only [V.toT]
   show (match binV .shr (.int .u64 _) (.int .u64 1) with | some v => T.lit v | none => T.any) = _
   simp only [binV, kEq]
   show T.lit (.int .u64 (Int.fdiv _ 2)) = _
   rw [Int.fdiv_eq_ediv_of_nonneg _ (by decide)]
  ·cases q
 ·cases q
theorem isTrueC_eq {x : X} (hx : isTrueC x = true) : x = .c (.lit (.bool true)) := by
 unfold isTrueC at hx
 split at hx
 ·rfl
 ·cases hx
theorem isFalseC_eq {x : X} (hx : isFalseC x = true) : x = .c (.lit (.bool false)) := by
 unfold isFalseC at hx
 split at hx
 ·rfl
 ·cases hx
theorem pickS_ok {c xa xb : X} {t : Bool} {va vb r : V} {sd : Sd} (R : Rp m s.fr) (ha : evX m xa = some va) (hb : evX m xb = some vb) (q : pickS t xa xb va.bare vb.bare = some (r, sd)) (hs : sd.holds) (hc : s.ev c = .lit (.bool t)) : Ok s (.pick c xa xb) r := by
 unfold Ok; simp only [qc, qt]; rw [hc]
 refine ⟨rfl, ?_⟩
 unfold pickS at q
 split at q
 rename_i a sa b sb ea eb
 split at q
 ·rename_i v hp
  cases q
  rw [Sd.and_holds, Sd.imp_holds, Sd.imp_holds] at hs
  have h1 : t = true → s.ev xa = a.toT := fun e => by rw [R.ev ha, bare_sound ea (hs.1 e)]
  have h2 : t = false → s.ev xb = b.toT := fun e => by rw [R.ev hb, bare_sound eb (hs.2 e)]
  unfold pickZ at hp
  split at hp
  ·rename_i x y
   have hp' : r = .bool (bif isTrueC xa then t || y else bif isFalseC xb then t && x else bif t then x else y) := by
    cases e1 : isTrueC xa <;> cases e2 : isFalseC xb <;> simp [e1, e2] at hp ⊢ <;> exact hp.symm
   subst hp'
   have key : pickT (.lit (.bool t)) (s.ev xa) (s.ev xb) = .lit (.bool (bif t then x else y)) := by
    cases t with
    | true =>
     rw [h1 rfl]; simp only [V.toT, pickT]
     split <;> simp_all
    | false =>
     rw [h2 rfl]; simp only [V.toT, pickT]
     split <;> simp_all
   rw [key]
   simp only [V.toT]
   congr 2
   cases e1 : isTrueC xa with
   | true =>
    have := isTrueC_eq e1; subst this
    simp only [evX, Option.some.injEq] at ha; subst ha
    simp only [ofT, V.bare, Prod.mk.injEq] at ea
    have := ea.1; cases this
    cases t <;> rfl
   | false =>
    cases e2 : isFalseC xb with
    | true =>
     have := isFalseC_eq e2; subst this
     simp only [evX, Option.some.injEq] at hb; subst hb
     simp only [ofT, V.bare, Prod.mk.injEq] at eb
     have := eb.1; cases this
     cases t <;> simp
    | false => rfl
  ·cases hp
   cases t with
   | true => rw [h1 rfl]; simp only [V.toT, pickT, cond_true]
   | false => rw [h2 rfl]; simp only [V.toT, pickT, cond_false]; split <;> simp_all
  ·cases hp
   cases t with
   | true => rw [h1 rfl]; simp only [V.toT, pickT, cond_true, eS]
   | false => rw [h2 rfl]; simp only [V.toT, pickT, cond_false, eS]; split <;> simp_all
  ·cases hp
 ·cases q
theorem ofPart_inv {k : Nat} {p : Option V} {r : V} {sd : Sd} (q : V.ofPart k p = some (r, sd)) : ∃ u, p = some u ∧ r = .ref k u := by
 unfold V.ofPart at q
 split at q
 ·cases q; exact ⟨_, rfl, rfl⟩
 ·cases q
theorem ofPartV_inv {p : Option V} {r : V} {sd : Sd} (q : V.ofPartV p = some (r, sd)) : p = some r := by
 unfold V.ofPartV at q
 split at q
 ·cases q; rfl
 ·cases q
theorem bneN {k : Nat} (h : (!(Nat.beq k 0)) = true) : (!(k == 0)) = true := by
 cases k <;> simp_all
theorem faZ_ok (hh : s.hp = h.toHp) {off k : Nat} {x : X} {u r : V} {sd : Sd} (q : faZ h off k u = some (r, sd)) (h1 : s.ev x = u.toT) : Ok s (.fa off k x) r := by
 unfold Ok; simp only [qc, qt]; rw [h1]
 unfold faZ at q
 split at q
 ·obtain ⟨g, q⟩ := guardO_inv q
  obtain ⟨u, e, rfl⟩ := ofPart_inv q
  simp only [Bool.and_eq_true] at g
  simp only [V.toT, V.part_toT e, Bool.and_eq_true]
  exact ⟨⟨bneN g.1, g.2⟩, trivial⟩
 ·obtain ⟨g, q⟩ := guardO_inv q
  cases q
  simp only [V.toT, hh, Hz.some_toHp, g, and_self]
 ·cases q
theorem fvZ_ok {off k : Nat} {x : X} {u r : V} {sd : Sd} (q : fvZ off k u = some (r, sd)) (h1 : s.ev x = u.toT) : Ok s (.fv off k x) r := by
 unfold Ok; simp only [qc, qt]; rw [h1]
 unfold fvZ at q
 split at q
 ·rename_i kt hk
  obtain ⟨g, q⟩ := guardO_inv q
  rw [V.kd_toT hk, V.part_toT (ofPartV_inv q)]
  simp only [Bool.and_eq_true] at g ⊢
  exact ⟨⟨bneN g.1, g.2⟩, trivial⟩
 ·cases q
theorem toHp_some {i : Nat} {o : OV} (e : h.get i = some o) : h.toHp i = some o.toOb := by simp [Hz.toHp, e]
theorem nthV_ok : ∀ {l : List V} {i : Nat} {v : V}, nthV l i = some v → i < l.length ∧ (V.toL l).getD i .any = v.toT := by
 intro l
 induction l with
 | nil => intro i v h; cases h
 | cons u r ih =>
  intro i v h
  cases i with
  | zero => cases h; exact ⟨Nat.succ_pos _, rfl⟩
  | succ i =>
   obtain ⟨a, b⟩ := ih h
   exact ⟨Nat.succ_lt_succ a, by simpa [V.toL] using b⟩
theorem iaZ_ok (hh : s.hp = h.toHp) {k : Nat} {x i : X} {u v r : V} {sd : Sd} (q : iaZ h k u v = some (r, sd)) (hs : sd.holds) (h1 : s.ev x = u.toT) (h2 : s.ev i = v.toT) : Ok s (.ia k x i) r := by
 unfold Ok; simp only [qc, qt]; rw [h1, h2]
 unfold iaZ at q
 split at q
 ·rename_i k' f l n
  split at q
  ·rename_i v hv
   obtain ⟨g, q⟩ := guardO_inv q
   cases q
   have := beqN g; subst this
   simp only [Sd.holds] at hs
   obtain ⟨a, b⟩ := nthV_ok hv
   simp only [V.toT, inR, toL_length]
   exact ⟨⟨trivial, hs, by omega⟩, by rw [b]⟩
  ·cases q
 ·rename_i k' f w n
  obtain ⟨g, q⟩ := guardO_inv q
  cases q
  have := beqN g; subst this
  simp only [Sd.holds, Rw.rng_iff] at hs
  simp only [V.toT, inR, Rw.len_toL]
  refine ⟨⟨trivial, hs⟩, ?_⟩
  rw [Rw.get_toT (by omega)]
 ·rename_i o n
  split at q
  ·rename_i ty k' w e
   obtain ⟨g, q⟩ := guardO_inv q
   cases q
   have := beqN g; subst this
   simp only [Sd.holds, Rw.rng_iff] at hs
   simp only [V.toT, hh, toHp_some e, OV.toOb, V.toL, List.append_nil, inR, Rw.len_toL]
   exact ⟨⟨trivial, hs⟩, trivial⟩
  ·cases q
 ·rename_i o lo hi n
  split at q
  ·rename_i ty k' w e
   obtain ⟨g, q⟩ := guardO_inv q
   cases q
   have := beqN g; subst this
   simp only [Sd.holds] at hs
   simp only [V.toT, hh, toHp_some e, OV.toOb, inR]
   exact ⟨⟨trivial, hs⟩, trivial⟩
  ·cases q
 ·cases q
theorem chZ_ok {x i : X} {u v r : V} {sd : Sd} (q : chZ u v = some (r, sd)) (hs : sd.holds) (h1 : s.ev x = u.toT) (h2 : s.ev i = v.toT) : Ok s (.ch x i) r := by
 unfold Ok; simp only [qc, qt]; rw [h1, h2]
 unfold chZ at q
 split at q
 ·cases q
  simp only [Sd.holds] at hs
  simp only [V.toT, eS, inR, bs_size, bs_get]
  exact ⟨hs, trivial⟩
 ·cases q
theorem ldZ_ok (hh : s.hp = h.toHp) {k : Nat} {x : X} {u r : V} {sd : Sd} (q : ldZ h k u = some (r, sd)) (hs : sd.holds) (h1 : s.ev x = u.toT) : Ok s (.ld k x) r := by
 unfold Ok; simp only [qc, qt]; rw [h1]
 unfold ldZ at q
 split at q
 ·obtain ⟨g, q⟩ := guardO_inv q
  cases q
  simp only [Bool.and_eq_true] at g
  have := beqN g.1; subst this
  simp [V.toT, g.2]
 ·rename_i i j off
  split at q
  ·rename_i ty ko v e
   simp only [V.toT, hh, toHp_some e, OV.toOb]
   unfold ldB at q
   cases hj : Nat.beq j 0 with
   | false => rw [hj] at q; cases q
   | true =>
    have := beqN hj; subst this
    rw [hj] at q
    simp only [cond_true] at q
    cases hb : (Nat.beq off 0 && Nat.beq ko k) with
    | true =>
     rw [hb] at q; cases q
     simp only [Bool.and_eq_true] at hb
     have e1 := beqN hb.1; have e2 := beqN hb.2; subst e1; subst e2
     simp
    | false =>
     rw [hb] at q
     simp only [cond_false] at q
     obtain ⟨g, q⟩ := guardO_inv q
     have hb' : (off == 0 && ko == k) = false := by
      rw [Bool.and_eq_false_iff] at hb ⊢
      rcases hb with hb | hb
      ·left; simpa using Nat.ne_of_beq_eq_false hb
      ·right; simpa using Nat.ne_of_beq_eq_false hb
     simp only [hb', cond_false, Bool.false_or, List.getD_cons_zero, V.part_toT (ofPartV_inv q), List.length_cons, List.length_nil]
     simp only [Bool.and_eq_true] at g ⊢
     exact ⟨⟨by omega, bneN g.1, g.2⟩, trivial⟩
  ·rename_i ty ko w e
   simp only [V.toT, hh, toHp_some e, OV.toOb, V.toL, List.append_nil]
   unfold ldR at q
   cases hb : (Nat.beq off 0 && Nat.beq ko k) with
   | true =>
    rw [hb] at q; cases q
    simp only [Bool.and_eq_true] at hb
    have e1 := beqN hb.1; have e2 := beqN hb.2; subst e1; subst e2
    simp only [Sd.holds, Rw.rng_iff] at hs
    have hlt : j < w.len := by omega
    simp only [BEq.rfl, Bool.and_self, Bool.true_or, cond_true, Rw.len_toL, Rw.get_toT hlt]
    exact ⟨⟨hlt, trivial⟩, trivial⟩
   | false =>
    rw [hb] at q
    simp only [cond_false] at q
    split at q
    ·rename_i u hu
     obtain ⟨g, q⟩ := guardO_inv q
     cases q
     have hb' : (off == 0 && ko == k) = false := by
      rw [Bool.and_eq_false_iff] at hb ⊢
      rcases hb with hb | hb
      ·left; simpa using Nat.ne_of_beq_eq_false hb
      ·right; simpa using Nat.ne_of_beq_eq_false hb
     simp only [Sd.holds, Rw.rng_iff] at hs
     have hlt : j < w.len := by omega
     simp only [hb', cond_false, Bool.false_or, Rw.len_toL, Rw.get_toT hlt, V.part_toT hu]
     simp only [Bool.and_eq_true] at g ⊢
     exact ⟨⟨hlt, bneN g.1, g.2⟩, trivial⟩
    ·cases q
  ·cases q
 ·cases q
theorem ncZ_ok (hh : s.hp = h.toHp) {x : X} {u r : V} {sd : Sd} (q : ncZ h u = some (r, sd)) (h1 : s.ev x = u.toT) : Ok s (.nc x) r := by
 unfold Ok; simp only [qc, qt]; rw [h1]
 unfold ncZ at q
 split at q
 ·cases q; simp [V.toT]
 ·obtain ⟨g, q⟩ := guardO_inv q; cases q; simp [V.toT, hh, Hz.some_toHp, g]
 ·cases q; simp [V.toT]
 ·cases q
theorem lenZ_ok (hh : s.hp = h.toHp) {str : Bool} {x : X} {u r : V} {sd : Sd} (q : lenZ h str u = some (r, sd)) (h1 : s.ev x = u.toT) : Ok s (.len str x) r := by
 unfold Ok; simp only [qc, qt]; rw [h1]
 unfold lenZ at q
 split at q
 ·obtain ⟨g, q⟩ := guardO_inv q; cases q
  simp only [Bool.not_eq_true'] at g
  simp [V.toT, Rw.lenV_eq, Rw.len_toL, g]
 ·obtain ⟨g, q⟩ := guardO_inv q; cases q
  simp only [Bool.not_eq_true'] at g
  simp [V.toT, toL_length, g]
 ·obtain ⟨g, q⟩ := guardO_inv q; cases q
  simp [V.toT, eS, bs_size, g]
 ·rename_i o
  split at q
  ·rename_i ty k w y e
   obtain ⟨g, q⟩ := guardO_inv q
   simp only [Bool.and_eq_true, Bool.not_eq_true'] at g
   have hk : k ≠ mapK := Nat.ne_of_beq_eq_false g.2
   split at q
   ·cases q
    simp only [V.toT, hh, toHp_some e, OV.toOb, V.toL, List.append_nil, Rw.lenV_eq, Rw.len_toL]
    exact ⟨⟨g.1, hk⟩, trivial⟩
   ·cases q
    simp only [V.toT, hh, toHp_some e, OV.toOb, List.length_append, toL_length, Rw.len_toL]
    exact ⟨⟨g.1, hk⟩, by simp⟩
  ·cases q
 ·rename_i o lo hi
  obtain ⟨g, q⟩ := guardO_inv q; cases q
  simp only [Bool.and_eq_true, Bool.not_eq_true'] at g
  simp [V.toT, hh, Hz.some_toHp, g]
 ·cases q
theorem mxZ_ok {x y : X} {u v r : V} {sd : Sd} (q : mxZ u v = some (r, sd)) (h1 : s.ev x = u.toT) (h2 : s.ev y = v.toT) : Ok s (.mx x y) r := by
 unfold Ok; simp only [qc, qt]; rw [h1, h2]
 unfold mxZ at q
 split at q
 ·rename_i a b
  cases q; simp only [V.toT, true_and]; congr 2; split <;> omega
 ·cases q
theorem mnZ_ok {x y : X} {u v r : V} {sd : Sd} (q : mnZ u v = some (r, sd)) (h1 : s.ev x = u.toT) (h2 : s.ev y = v.toT) : Ok s (.mn x y) r := by
 unfold Ok; simp only [qc, qt]; rw [h1, h2]
 unfold mnZ at q
 split at q
 ·rename_i a b
  cases q; simp only [V.toT, true_and]; congr 2; split <;> omega
 ·cases q
theorem exZ_ok {i : Nat} {x : X} {u r : V} {sd : Sd} (q : exZ i u = some (r, sd)) (h1 : s.ev x = u.toT) : Ok s (.ex x i) r := by
 unfold Ok; simp only [qc, qt]; rw [h1]
 unfold exZ at q
 split at q
 ·split at q
  ·rename_i l _ v e
   cases q
   have hi : i < l.length := (List.getElem?_eq_some_iff.1 e).1
   simp only [V.toT, Nat.blt_eq, toL_length, getElem_toL e]
   exact ⟨hi, trivial⟩
  ·cases q
 ·cases q
theorem eqsZ_ok {ne : Bool} {n : Nat} {x y : X} {u v r : V} {sd : Sd} (q : eqsZ ne n u v = some (r, sd)) (h1 : s.ev x = u.toT) (h2 : s.ev y = v.toT) : Ok s (.eqs ne n x y) r := by
 unfold Ok; simp only [qc, qt]; rw [h1, h2]
 unfold eqsZ at q
 split at q
 ·rename_i x y
  obtain ⟨g, q⟩ := guardO_inv q; cases q
  have := beqN g; subst this
  have e : eqInts [.int x.c, .int x.n, .int x.t, .int x.f] [.int y.c, .int y.n, .int y.t, .int y.f] = (x == y) := by
   cases x; cases y; simp [eqInts, BEq.beq]
  simp only [V.toT, Dat.toT, eLin, e]
  exact ⟨rfl, trivial⟩
 ·rename_i x y
  obtain ⟨g, q⟩ := guardO_inv q; cases q
  have := beqN g; subst this
  have e : eqInts [.int x.message, .int x.coef, .int x.bound.c, .int x.bound.n, .int x.bound.t, .int x.bound.f] [.int y.message, .int y.coef, .int y.bound.c, .int y.bound.n, .int y.bound.t, .int y.bound.f] = (x == y) := by
   obtain ⟨a, b, c, d, e, f⟩ := x; obtain ⟨a', b', c', d', e', f'⟩ := y; simp [eqInts, BEq.beq]
  simp only [V.toT, Dat.toT, eThr, e]
  exact ⟨rfl, trivial⟩
 ·cases q
theorem capZ_ok {x : X} {u r : V} {sd : Sd} (q : capZ u = some (r, sd)) (h1 : s.ev x = u.toT) : Ok s (.capx x) r := by
 unfold Ok; simp only [qc, qt]; rw [h1]
 unfold capZ at q
 split at q
 ·cases q; simp [V.toT, Rw.lenV_eq, Rw.len_toL]
 ·cases q
end
end Go.Ab
namespace Go.Ab
section
variable {m : Fm} {h : Hz} {s : AS}
theorem bareL_ev (R : Rp m s.fr) : ∀ {xs : List X} {l : List V} {sd : Sd}, bareL m xs = some (l, sd) → sd.holds → xs.map s.ev = V.toL l := by
 intro xs
 induction xs with
 | nil => intro l sd q _; cases q; rfl
 | cons x r ih =>
  intro l sd q hs
  simp only [bareL] at q
  split at q
  ·rename_i v l' s' h1 h2
   cases q
   rw [Sd.and_holds] at hs
   simp only [List.map_cons, V.toL]
   rw [R.ev h1, bare_sound (v := v) (u := v.bare.1) (s := v.bare.2) rfl hs.1, ih h2 hs.2]
  ·cases q
theorem stOkL_all : ∀ {l : List V}, stOkL h l = true → stAll h.toHp (V.toL l) = true := by
 intro l
 induction l with
 | nil => intro _; rfl
 | cons v r ih =>
  intro q
  simp only [stOkL, Bool.and_eq_true] at q
  simp only [V.toL, stAll, Bool.and_eq_true]
  exact ⟨V.stOk_toT q.1, ih q.2⟩
theorem kdL_get {k : Nat} : ∀ {l : List V}, kdL k l = true → ∀ v ∈ l, v.kd = some k := by
 intro l
 induction l with
 | nil => intro _ v hv; cases hv
 | cons u r ih =>
  intro q v hv
  simp only [kdL, Bool.and_eq_true] at q
  rcases List.mem_cons.1 hv with rfl | hv
  ·have := q.1
   split at this
   ·rename_i k' e; rw [e, beqN this]
   ·cases this
  ·exact ih q.2 v hv
theorem oneAll_of : ∀ {l : List V}, stOkL h l = true → kdL 0 l = true → oneAll h.toHp (V.toL l) = true := by
 intro l
 induction l with
 | nil => intro _ _; rfl
 | cons v r ih =>
  intro q k
  have hk := kdL_get k v (by simp)
  simp only [stOkL, kdL, Bool.and_eq_true] at q k
  simp only [V.toL, oneAll, Bool.and_eq_true]
  exact ⟨V.oneC_toT q.1 hk, ih q.2 k.2⟩
theorem fillZ_ok : ∀ {ps : List (Nat × Nat × X)} {vs z l : List V}, fillZ ps vs z = some l → (ps.map fun p => s.ev p.2.2) = V.toL vs →
  fillOk (V.toL z) (ps.map fun p => (p.1, p.2.1, s.ev p.2.2)) = true ∧ fillT (V.toL z) (ps.map fun p => (p.1, p.2.1, s.ev p.2.2)) = V.toL l := by
 intro ps
 induction ps with
 | nil =>
  intro vs z l q he
  cases vs with
  | nil => cases q; exact ⟨rfl, rfl⟩
  | cons v vs => simp [V.toL] at he
 | cons p ps ih =>
  intro vs z l q he
  obtain ⟨off, n, x⟩ := p
  cases vs with
  | nil => simp [V.toL] at he
  | cons v vs =>
   simp only [fillZ] at q
   split at q
   ·rename_i c hc
    obtain ⟨g, q⟩ := guardO_inv q
    simp only [List.map_cons, V.toL, List.cons.injEq] at he
    simp only [Bool.and_eq_true] at g
    have e1 := beqN g.1
    obtain ⟨i1, i2⟩ := ih q he.2
    simp only [List.map_cons, fillOk, fillT, Bool.and_eq_true]
    have ec : (s.ev x).cells = V.toL c := by rw [he.1]; exact V.cells_toT hc
    simp only [toL_append, toL_take, toL_drop] at i1 i2
    simp only [ec, toL_length]
    refine ⟨⟨⟨by simpa using e1, g.2⟩, i1⟩, i2⟩
   ·cases q
theorem mkZ_ok (R : Rp m s.fr) (hh : s.hp = h.toHp) {z : List T} {ps : List (Nat × Nat × X)} {r : V} {sd : Sd} (q : mkZ m h z ps = some (r, sd)) (hs : sd.holds) : Ok s (.mk z ps) r := by
 unfold mkZ at q
 split at q
 ·rename_i vs s' hb
  split at q
  ·rename_i l hl
   obtain ⟨g, q⟩ := guardO_inv q
   cases q
   have he := bareL_ev R hb hs
   have he' : (ps.map fun p => s.ev p.2.2) = V.toL vs := by rw [← he]; simp
   obtain ⟨i1, i2⟩ := fillZ_ok hl he'
   rw [ofL_toL] at i1 i2
   unfold Ok; simp only [qc, qt]
   rw [i1, i2, he', hh, stOkL_all g]
   exact ⟨rfl, rfl⟩
  ·cases q
 ·cases q
theorem putZ_ok {k n : Nat} : ∀ {ps : List (Nat × X)} {vs z l : List V}, putZ n ps vs z = some l → (ps.map fun p => s.ev p.2) = V.toL vs → kdL k vs = true →
  setOk k n (ps.map fun p => (p.1, s.ev p.2)) = true ∧ setAll (V.toL z) (ps.map fun p => (p.1, s.ev p.2)) = V.toL l := by
 intro ps
 induction ps with
 | nil =>
  intro vs z l q he _
  cases vs with
  | nil => cases q; exact ⟨rfl, rfl⟩
  | cons v vs => simp [V.toL] at he
 | cons p ps ih =>
  intro vs z l q he hk
  obtain ⟨i, x⟩ := p
  cases vs with
  | nil => simp [V.toL] at he
  | cons v vs =>
   simp only [putZ] at q
   obtain ⟨g, q⟩ := guardO_inv q
   simp only [List.map_cons, V.toL, List.cons.injEq] at he
   have hkv := kdL_get hk v (by simp)
   simp only [kdL, Bool.and_eq_true] at hk
   obtain ⟨i1, i2⟩ := ih q he.2 hk.2
   have e : V.toL (z.set i v) = (V.toL z).set i (s.ev x) := by rw [he.1]; simp [toL_map, List.map_set]
   rw [e] at i2
   simp only [List.map_cons, setOk, setAll, Bool.and_eq_true]
   refine ⟨⟨⟨?_, g⟩, i1⟩, i2⟩
   rw [he.1, V.kd_toT hkv]; simp
theorem msZ_ok (R : Rp m s.fr) (hh : s.hp = h.toHp) {ty k : Nat} {z : T} {n : Nat} {ps : List (Nat × X)} {r : V} {sd : Sd} (q : msZ m h k z n ps = some (r, sd)) (hs : sd.holds) : Ok s (.ms ty k z n ps) r := by
 unfold msZ at q
 split at q
 ·rename_i vs s' hb
  split at q
  ·rename_i l hl
   obtain ⟨g, q⟩ := guardO_inv q
   have hs' : s'.holds ∧ r.toT = .sl k true (V.toL l) := by
    split at q
    ·rename_i w hw
     cases q; exact ⟨hs, by simp only [V.toT]; rw [Rw.ofL_toL hw]⟩
    ·cases q; exact ⟨hs, rfl⟩
   have he := bareL_ev R hb hs'.1
   have he' : (ps.map fun p => s.ev p.2) = V.toL vs := by rw [← he]; simp
   simp only [Bool.and_eq_true] at g
   obtain ⟨⟨⟨⟨⟨⟨g1, g2⟩, g3⟩, g4⟩, g5⟩, g6⟩, g7⟩ := g
   obtain ⟨i1, i2⟩ := putZ_ok hl he' g3
   have e : V.toL (List.replicate n (ofT z)) = List.replicate n z := by rw [toL_map, List.map_replicate, ofT_toT]
   rw [e] at i2
   unfold Ok; simp only [qc, qt]
   rw [i1, i2, he', hh, stOkL_all g4, V.freeL_toL _ g5, g1, g2, g6, g7, hs'.2]
   exact ⟨rfl, rfl⟩
  ·cases q
 ·cases q
theorem bareO_ev (R : Rp m s.fr) {x : Option X} {v : Option V} {sd : Sd} (q : bareO m x = some (v, sd)) (hs : sd.holds) : x.map s.ev = v.map V.toT := by
 cases x with
 | none => cases q; rfl
 | some x =>
  simp only [bareO] at q
  split at q
  ·rename_i u hu
   cases q
   simp only [Option.map_some]; rw [R.ev hu, bare_sound (v := u) (u := u.bare.1) (s := u.bare.2) rfl hs]
  ·cases q
theorem kOk_or {k k' : Nat} {r : Rw} (g : kOk k k' r = true) : k' = k ∨ r.toL = [] := by
 unfold kOk at g
 split at g
 ·exact .inr rfl
 ·exact .inl (beqN g)
theorem rowSl_ok {k k' : Nat} {f : Bool} {w : Rw} {lo hi mx : Option V} {r : V} {sd : Sd} (q : rowSl k k' f w lo hi mx = some (r, sd)) (hs : sd.holds) :
  slC k (.sl k' f w.toL) (lo.map V.toT) (hi.map V.toT) (mx.map V.toT) ∧ slT k (.sl k' f w.toL) (lo.map V.toT) (hi.map V.toT) (mx.map V.toT) = r.toT := by
 unfold rowSl at q
 split at q
 ·obtain ⟨g, q⟩ := guardO_inv q; cases q
  simp only [Option.map_none, slC, slT, V.toT]
  exact ⟨kOk_or g, trivial⟩
 ·obtain ⟨g, q⟩ := guardO_inv q; cases q
  simp only [Sd.holds, Rw.rngE_iff] at hs
  simp only [Option.map_none, Option.map_some, slC, slT, V.toT, Rw.drop_toL, Rw.len_toL]
  exact ⟨⟨kOk_or g, hs⟩, trivial⟩
 ·obtain ⟨g, q⟩ := guardO_inv q; cases q
  simp only [Sd.holds, Rw.rngE_iff] at hs
  simp only [Option.map_none, Option.map_some, slC, slT, V.toT, Rw.take_toL, Rw.len_toL]
  exact ⟨⟨kOk_or g, hs⟩, trivial⟩
 ·obtain ⟨g, q⟩ := guardO_inv q; cases q
  simp only [Sd.holds, Rw.rngE_iff] at hs
  simp only [Option.map_none, Option.map_some, slC, slT, V.toT, Rw.take_toL, Rw.drop_toL, Rw.len_toL]
  exact ⟨⟨kOk_or g, hs.1, hs.2.1, hs.2.2.2⟩, trivial⟩
 ·obtain ⟨g, q⟩ := guardO_inv q; cases q
  simp only [Sd.holds, Rw.rngE_iff] at hs
  simp only [Option.map_none, Option.map_some, slC, slT, V.toT, Rw.take_toL, Rw.len_toL]
  exact ⟨⟨kOk_or g, hs.1, hs.2.1, hs.2.2.2⟩, trivial⟩
 ·cases q
theorem ownSl_ok {k i ty ko : Nat} {w : Rw} {lo hi mx : Option V} {r : V} {sd : Sd} (q : ownSl k i ko w lo hi mx = some (r, sd)) (hs : sd.holds) :
  viewC k ⟨ty, ko, w.toL⟩ (lo.map V.toT) (hi.map V.toT) (mx.map V.toT) ∧ viewT i ⟨ty, ko, w.toL⟩ (lo.map V.toT) (hi.map V.toT) (mx.map V.toT) = r.toT := by
 unfold ownSl at q
 split at q
 ·obtain ⟨g, q⟩ := guardO_inv q; cases q
  simp only [Sd.holds, Rw.rngE_iff] at hs
  simp only [Option.map_none, Option.map_some, viewC, viewT, V.toT, Rw.len_toL]
  exact ⟨⟨beqN g, hs⟩, trivial⟩
 ·obtain ⟨g, q⟩ := guardO_inv q; cases q
  simp only [Sd.holds, Rw.rngE_iff] at hs
  simp only [Option.map_none, Option.map_some, viewC, viewT, V.toT, Rw.len_toL]
  exact ⟨⟨beqN g, hs⟩, trivial⟩
 ·obtain ⟨g, q⟩ := guardO_inv q; cases q
  simp only [Sd.holds, Rw.rngE_iff] at hs
  simp only [Option.map_none, Option.map_some, viewC, viewT, V.toT, Rw.len_toL]
  exact ⟨⟨beqN g, hs.1, hs.2.1, hs.2.2.2⟩, trivial⟩
 ·cases q
theorem ownSlX_ok {k i ty ko : Nat} {w : Rw} {xs : List V} {lo hi mx : Option V} {r : V} {sd : Sd} (q : ownSlX k i ko w xs lo hi mx = some (r, sd)) (hs : sd.holds) :
  viewC k ⟨ty, ko, w.toL ++ V.toL xs⟩ (lo.map V.toT) (hi.map V.toT) (mx.map V.toT) ∧ viewT i ⟨ty, ko, w.toL ++ V.toL xs⟩ (lo.map V.toT) (hi.map V.toT) (mx.map V.toT) = r.toT := by
 unfold ownSlX at q
 split at q
 ·obtain ⟨g, q⟩ := guardO_inv q; cases q
  simp only [Sd.holds, Rw.rngE_iff] at hs
  simp only [Option.map_none, Option.map_some, viewC, viewT, V.toT]
  refine ⟨⟨beqN g, hs.1, ?_⟩, trivial⟩
  have := hs.2
  simp only [List.length_append, Rw.len_toL]; omega
 ·split at q
  ·simp only [V.toL, List.append_nil]; exact ownSl_ok q hs
  ·cases q
theorem slX_inv (R : Rp m s.fr) {b : Bool} {k : Nat} {x : X} {lo hi mx : Option X} {r : V} {sd : Sd} (q : slX m h b k x lo hi mx = some (r, sd)) (hs : sd.holds) :
  ∃ v lo' hi' mx' s', slZ h b k v lo' hi' mx' = some (r, s') ∧ s'.holds ∧ s.ev x = v.toT ∧ lo.map s.ev = lo'.map V.toT ∧ hi.map s.ev = hi'.map V.toT ∧ mx.map s.ev = mx'.map V.toT := by
 obtain ⟨v, s', q, hs, hv⟩ := qz1_inv R q hs
 split at q
 ·rename_i lo' s1 hi' s2 mx' s3 e1 e2 e3
  split at q
  ·rename_i u s4 e4
   cases q
   rw [Sd.and_holds, Sd.and_holds, Sd.and_holds] at hs
   exact ⟨v, lo', hi', mx', s4, e4, hs.2.2.2, hv, bareO_ev R e1 hs.1, bareO_ev R e2 hs.2.1, bareO_ev R e3 hs.2.2.1⟩
  ·cases q
 ·cases q
theorem sl_ok (R : Rp m s.fr) {k : Nat} {x : X} {lo hi mx : Option X} {r : V} {sd : Sd} (q : slX m h false k x lo hi mx = some (r, sd)) (hs : sd.holds) : Ok s (.sl k x lo hi mx) r := by
 obtain ⟨v, lo', hi', mx', s', q, hs, hv, e1, e2, e3⟩ := slX_inv R q hs
 unfold Ok; simp only [qc, qt]; rw [hv, e1, e2, e3]
 unfold slZ at q
 split at q
 ·exact rowSl_ok q hs
 ·cases q
 ·cases q
theorem slx_ok (R : Rp m s.fr) (hh : s.hp = h.toHp) {k : Nat} {x : X} {lo hi mx : Option X} {r : V} {sd : Sd} (q : slX m h true k x lo hi mx = some (r, sd)) (hs : sd.holds) : Ok s (.slx k x lo hi mx) r := by
 obtain ⟨v, lo', hi', mx', s', q, hs, hv, e1, e2, e3⟩ := slX_inv R q hs
 unfold Ok; simp only [qc, qt]; rw [hv, e1, e2, e3]
 unfold slZ at q
 split at q
 ·exact rowSl_ok q hs
 ·simp only [cond_true] at q
  split at q
  ·rename_i i _ ty ko w xs e
   simp only [V.toT, hh, toHp_some e, OV.toOb]
   exact ownSlX_ok q hs
  ·cases q
 ·cases q
theorem bs_extract {t : Str} {a b : Nat} (hab : a ≤ b) (hb : b ≤ t.length) : (bs t).extract a b = bs ((t.take b).drop a) := by
 apply ByteArray.ext
 have h1 : ((bs t).extract a b).data = (bs t).data.extract a b := ByteArray.data_extract
 rw [h1]
 apply Array.ext'
 simp [bs, List.extract, List.take_drop]
 rw [show a + (b - a) = b by omega]
theorem ss_ok (R : Rp m s.fr) {x : X} {lo hi : Option X} {r : V} {sd : Sd} (q : ssX m x lo hi = some (r, sd)) (hs : sd.holds) : Ok s (.ss x lo hi) r := by
 obtain ⟨v, s', q, hs, hv⟩ := qz1_inv R q hs
 split at q
 ·rename_i t lo' s1 hi' s2 e1 e2
  split at q
  ·rename_i u s4 e4
   cases q
   rw [Sd.and_holds, Sd.and_holds] at hs
   have f1 := bareO_ev R e1 hs.1
   have f2 := bareO_ev R e2 hs.2.1
   unfold Ok; simp only [qc, qt]; rw [hv, f1, f2]
   have hs4 := hs.2.2
   unfold ssZ at e4
   split at e4
   ·cases e4
    simp only [Sd.holds] at hs4
    simp only [Option.map_none, Option.map_some, V.toT, eS, bs_size]
    refine ⟨hs4, ?_⟩
    rw [bs_extract (by omega) (Nat.le_refl _)]; simp
   ·cases e4
    simp only [Sd.holds] at hs4
    simp only [Option.map_none, Option.map_some, V.toT, eS, bs_size]
    refine ⟨hs4, ?_⟩
    rw [bs_extract (by omega) (by omega)]; simp
   ·cases e4
    simp only [Sd.holds] at hs4
    simp only [Option.map_some, V.toT, eS, bs_size]
    refine ⟨hs4, ?_⟩
    rw [bs_extract (by omega) (by omega)]
   ·cases e4
  ·cases q
 ·cases q
theorem mfZ_ok (R : Rp m s.fr) (hh : s.hp = h.toHp) {f : FuncId} {cap : List X} {r : V} {sd : Sd} (q : mfZ m h f cap = some (r, sd)) (hs : sd.holds) : Ok s (.mf f cap) r := by
 unfold mfZ at q
 split at q
 ·rename_i l s' hb
  obtain ⟨g, q⟩ := guardO_inv q
  cases q
  simp only [Bool.and_eq_true] at g
  unfold Ok; simp only [qc, qt]
  rw [bareL_ev R hb hs, hh, oneAll_of g.1.1 g.1.2, g.2]
  exact ⟨rfl, rfl⟩
 ·cases q
theorem mbZ_ok {f : FuncId} {x : X} {v r : V} {sd : Sd} (q : mbZ f v = some (r, sd)) (h1 : s.ev x = v.toT) : Ok s (.mb f x) r := by
 unfold mbZ at q
 split at q
 ·obtain ⟨g, q⟩ := guardO_inv q; cases q
  unfold Ok; simp only [qc, qt]; rw [h1]; exact ⟨Nat.blt_eq.mp g, rfl⟩
 ·obtain ⟨g, q⟩ := guardO_inv q; cases q
  rename_i d
  unfold Ok; simp only [qc, qt]; rw [h1]; simp only [V.toT]; rw [Dat.toT_cells]; exact ⟨Nat.blt_eq.mp g, rfl⟩
 ·cases q
theorem qz_sound (R : Rp m s.fr) (hh : s.hp = h.toHp) {op : AOp} {r : V} {sd : Sd} (q : qz m h op = some (r, sd)) (hs : sd.holds) : isQuiet op = true ∧ Ok s op r := by
 unfold qz at q
 split at q
 ·split at q
  ·rename_i v e; cases q
   exact ⟨rfl, trivial, R.ev e⟩
  ·cases q
 ·obtain ⟨c, s', q, hs, hc⟩ := qz1_inv R q hs
  split at q
  ·rename_i t va vb e1 e2
   exact ⟨rfl, pickS_ok R e1 e2 q hs hc⟩
  ·cases q
 ·obtain ⟨u, v, s', q, hs, h1, h2⟩ := qz2_inv R q hs
  exact ⟨rfl, binZ_ok q hs h1 h2⟩
 ·obtain ⟨u, v, s', q, hs, h1, h2⟩ := qz2_inv R q hs
  split at q
  ·cases q; refine ⟨rfl, ?_⟩; unfold Ok; simp only [qc, qt]; rw [h1, h2]; exact ⟨rfl, rfl⟩
  ·cases q
 ·obtain ⟨u, s', q, hs, h1⟩ := qz1_inv R q hs
  split at q
  ·cases q; refine ⟨rfl, ?_⟩; unfold Ok; simp only [qc, qt]; rw [h1]; exact ⟨rfl, rfl⟩
  ·cases q
 ·obtain ⟨u, s', q, hs, h1⟩ := qz1_inv R q hs
  split at q
  ·cases q; refine ⟨rfl, ?_⟩; unfold Ok; simp only [qc, qt]; rw [h1]; simp only [V.toT, true_and]; rw [wrapI hs]
  ·cases q; refine ⟨rfl, ?_⟩; unfold Ok; simp only [qc, qt]; rw [h1]; simp only [V.toT, true_and]; rw [wrapI hs]
  ·cases q; refine ⟨rfl, ?_⟩; unfold Ok; simp only [qc, qt]; rw [h1]; simp only [V.toT, true_and]; rw [wrapI hs]
  ·cases q
 ·obtain ⟨u, s', q, hs, h1⟩ := qz1_inv R q hs
  split at q
  ·cases q; refine ⟨rfl, ?_⟩; unfold Ok; simp only [qc, qt]; rw [h1]; simp only [V.toT, true_and]; rw [wrapU hs.1 hs.2]
  ·cases q
 ·obtain ⟨u, s', q, hs, h1⟩ := qz1_inv R q hs; exact ⟨rfl, faZ_ok hh q h1⟩
 ·obtain ⟨u, s', q, hs, h1⟩ := qz1_inv R q hs; exact ⟨rfl, fvZ_ok q h1⟩
 ·obtain ⟨u, v, s', q, hs, h1, h2⟩ := qz2_inv R q hs; exact ⟨rfl, iaZ_ok hh q hs h1 h2⟩
 ·obtain ⟨u, v, s', q, hs, h1, h2⟩ := qz2_inv R q hs; exact ⟨rfl, chZ_ok q hs h1 h2⟩
 ·obtain ⟨u, s', q, hs, h1⟩ := qz1_inv R q hs; exact ⟨rfl, ldZ_ok hh q hs h1⟩
 ·obtain ⟨u, s', q, hs, h1⟩ := qz1_inv R q hs; exact ⟨rfl, ncZ_ok hh q h1⟩
 ·obtain ⟨u, s', q, hs, h1⟩ := qz1_inv R q hs; exact ⟨rfl, lenZ_ok hh q h1⟩
 ·obtain ⟨u, v, s', q, hs, h1, h2⟩ := qz2_inv R q hs; exact ⟨rfl, mxZ_ok q h1 h2⟩
 ·obtain ⟨u, v, s', q, hs, h1, h2⟩ := qz2_inv R q hs; exact ⟨rfl, mnZ_ok q h1 h2⟩
 ·exact ⟨rfl, mkZ_ok R hh q hs⟩
 ·exact ⟨rfl, msZ_ok R hh q hs⟩
 ·exact ⟨rfl, sl_ok R q hs⟩
 ·exact ⟨rfl, slx_ok R hh q hs⟩
 ·exact ⟨rfl, ss_ok R q hs⟩
 ·obtain ⟨u, s', q, hs, h1⟩ := qz1_inv R q hs; exact ⟨rfl, exZ_ok q h1⟩
 ·exact ⟨rfl, mfZ_ok R hh q hs⟩
 ·obtain ⟨u, v, s', q, hs, h1, h2⟩ := qz2_inv R q hs; exact ⟨rfl, eqsZ_ok q h1 h2⟩
 ·obtain ⟨u, s', q, hs, h1⟩ := qz1_inv R q hs; exact ⟨rfl, capZ_ok q h1⟩
 ·obtain ⟨u, s', q, hs, h1⟩ := qz1_inv R q hs; exact ⟨rfl, mbZ_ok q h1⟩
 ·cases q
end
end Go.Ab
namespace Go.Ab
structure CallZ (P : Program) (dr : Bool) (g : Option Bool) (f : FuncId) (args : List V) (h : Hz) (n : Nat) (K : V → Hz → Prop) : Prop where
 ok : match g with
  | none => ACalls P f (V.toL args) h.toHp n fun t hp => ∃ v h', t = v.toT ∧ hp = h'.toHp ∧ (dr = true → h' = h ∧ t.free = true) ∧ K v h'
  | some b => ∃ v, (b = true → ACalls P f (V.toL args) h.toHp n fun t hp => t = v.toT ∧ hp = h.toHp) ∧ v.free = true ∧ K v h
inductive NilZ (p a b : Prop) : Prop where
 | mk : (p → a) → b → NilZ p a b
def V.seq (v : V) (K : V → Prop) : Prop :=
 match v with
 | .int n => K (.int n)
 | .bool b => K (.bool b)
 | .u8 n => K (.u8 n)
 | .str s => K (.str s)
 | .dat d => K (.dat d)
 | .agg l => K (.agg l)
 | .row k f r => K (.row k f r)
 | .rowv k f l => K (.rowv k f l)
 | .ref k v => K (.ref k v)
 | .own i => K (.own i)
 | .ptr i j o => K (.ptr i j o)
 | .ovw i a b => K (.ovw i a b)
 | .fn f l => K (.fn f l)
 | .tup l => K (.tup l)
 | .cnd b v => K (.cnd b v)
 | .raw t => K (.raw t)
theorem V.seq_eq (v : V) (K : V → Prop) : v.seq K = K v := by cases v <;> rfl
def setD (d : Option Nat) (v : V) (m : Fm) : Fm :=
 match d with
 | some d => (d, v) :: m
 | none => m
def cndV : Option Bool → V → V
 | none, v => v
 | some b, .cnd c v => .cnd (b && c) v
 | some b, v => .cnd b v
theorem cndV_true (v : V) : (cndV (some true) v).toT = v.toT := by cases v <;> rfl
theorem cndV_false (v : V) : (cndV (some false) v).toT = T.un := by cases v <;> rfl
def guardZ (m : Fm) : Option (Nat × Bool) → Option (Option Bool)
 | none => some none
 | some (g, w) => match m.get g with
  | some (.bool b) => some (some (bif w then b else !b))
  | some (.cnd c (.bool b)) => some (some (c && (bif w then b else !b)))
  | _ => none
def ltX (nx : Nat) (m : Fm) : List X → Bool
 | [] => true
 | x :: r => (match evX m x with | some v => T.lt nx v.toT | none => false) && ltX nx m r
def flagS (nx : Nat) (m : Fm) : AOp → Bool
 | .st _ x _ => match evX m x with | some v => T.newer nx v.toT | none => false
 | .app _ _ _ x _ => match evX m x with | some v => T.newer nx v.toT | none => false
 | .mup _ _ _ => false
 | .clr _ _ _ => false
 | op => ltX nx m op.xs
def nidX (i : Nat) (m : Fm) : List X → Bool
 | [] => true
 | x :: r => (match evX m x with | some v => T.nid i v.toT | none => false) && nidX i m r
def neB (m : Fm) (xs : List X) : List Nat → Bool
 | [] => true
 | d :: r => (match m.get d with | some (.ptr i _ _) => nidX i m xs | _ => false) && neB m xs r
def flagB (nx : Nat) (o : AOper) (m : Fm) : Bool := (!o.fl || flagS nx m o.op) && neB m o.op.xs o.ne
def isZero : V → Bool
 | .int (.ofNat 0) => true
 | _ => false
def repR (n : Nat) : T → Option Rw
 | .lit (.int .i64 z) => some (.ints (List.replicate n z))
 | .lit (.bool z) => some (.bools (List.replicate n z))
 | .lit (.string z) => some (.strs (List.replicate n z.data.toList))
 | _ => none
def Rw.set (j : Nat) (v : V) (r : Rw) : Option Rw :=
 match r, v with
 | .ints l, .int n => some (.ints (l.set j n))
 | .bools l, .bool n => some (.bools (l.set j n))
 | .strs l, .str n => some (.strs (l.set j n))
 | .rules l, .dat (.rule n) => some (.rules (l.set j n))
 | .clauses l, .dat (.clause n) => some (.clauses (l.set j n))
 | .elems l, .dat (.elem n) => some (.elems (l.set j n))
 | .intss l, .row 0 false (.ints n) => some (.intss (l.set j n))
 | _, _ => none
def srcZ (h : Hz) (k : Nat) : V → Option (Rw × List V)
 | .row k' _ r => guardO (kOk k k' r) (some (r, []))
 | .rowv k' _ l => guardO (Nat.beq k' k) (some (.nil, l))
 | .own o => match h.get o with
  | some (.row _ ko r x) => guardO (Nat.beq ko k) (some (r, x))
  | _ => none
 | _ => none
def catZ (r : Rw) (x : List V) (r' : Rw) (x' : List V) : Option (Rw × List V) :=
 match x, r' with
 | [], r' => match r.app r' with | some w => some (w, x') | none => none
 | x, .nil => some (r, x ++ x')
 | _, _ => none
def lenRX (r : Rw) (x : List V) : Nat :=
 match x with
 | [] => r.len
 | x => r.len + x.length
def capOk (bytes : Nat) (a b : Nat) : Prop := (a + b) * bytes ≤ 140737488355328 ∧ a + b ≤ 1152921504606846976
def setCells (v : V) (off : Nat) (u : V) : Option V :=
 match v.cells, u.cells with
 | some l, some c => some (.agg (l.take off ++ c ++ l.drop (off + c.length)))
 | _, _ => none
def forceL : List V → (List V → Prop) → Prop
 | [], K => K []
 | v :: r, K => forceL r fun r' => K (v :: r')
def V.force (v : V) (K : V → Prop) : Prop :=
 match v with
 | .agg l => forceL l fun l => K (.agg l)
 | v => K v
theorem forceL_eq : ∀ {l : List V} {K : List V → Prop}, forceL l K = K l := by
 intro l
 induction l with
 | nil => intro K; rfl
 | cons v r ih => intro K; show forceL r (fun r' => K (v :: r')) = _; rw [ih]
theorem V.force_eq (v : V) (K : V → Prop) : v.force K = K v := by
 cases v <;> first | rfl | exact forceL_eq
def effZ (d : Option Nat) (n : Nat) (m : Fm) (h : Hz) (K : Fm → Hz → Prop) : AOp → Prop
 | .box ty k x => match evX m x with
  | some v => match v.bare with
   | (v, s) => bif kdL k [v] && v.stOk h && kPos k then s.vc none (K (setD d (.ptr n 0 0) m) ((n, some (.box ty k v)) :: h)) else False
  | none => False
 | .al ty k z => bif z.kd == k && z.stOk h.toHp && z.free && kPos k then K (setD d (.ptr n 0 0) m) ((n, some (.box ty k (ofT z))) :: h) else False
 | .make ty k bytes z x y => match evX m x, evX m y with
  | some (.int a), some (.int b) => bif z.kd == k && z.stOk h.toHp && z.free && kPos k then
    (match (bif isZero (.int a) then some .nil else repR a.toNat z) with
    | some r => VC (0 ≤ a ∧ a ≤ b ∧ b * bytes ≤ 140737488355328 ∧ b ≤ 1152921504606846976) (K (setD d (.own n) m) ((n, some (.row ty k r [])) :: h))
    | none => False) else False
  | _, _ => False
 | .st k x v => match evX m x, evX m v with
  | some (.ptr i j off), some v => match v.bare with
   | (v, s) => bif kdL k [v] && v.stOk h then
    (match h.get i with
    | some (.box ty ko w) => bif Nat.beq j 0 then
      (bif Nat.beq off 0 && Nat.beq ko k then s.vc none (K m ((i, some (.box ty ko v)) :: h))
      else bif !(Nat.beq ko 0) && partOk (szK ko) off k then (match setCells w off v with
       | some w' => w'.force fun w' => s.vc none (K m ((i, some (.box ty ko w')) :: h))
       | none => False) else False) else False
    | some (.row ty ko r []) => bif Nat.beq off 0 && Nat.beq ko k then (match r.set j v with
      | some r' => s.vc none (VC (r.rng j) (K m ((i, some (.row ty ko r' [])) :: h)))
      | none => False) else False
    | _ => False) else False
  | _, _ => False
 | .app ty k bytes x y => match evX m x, evX m y with
  | some x, some y => match srcZ h k y with
   | some (r', x') => (match x with
    | .row _ true .nil => VC (capOk bytes 0 (lenRX r' x')) (K (setD d (.own n) m) ((n, some (.row ty k r' x')) :: h))
    | .row k' true r => bif Nat.beq k' k then (match r.app r' with
     | some w => VC ((r.len = 0 ∨ 0 < lenRX r' x') ∧ capOk bytes r.len (lenRX r' x')) (K (setD d (.own n) m) ((n, some (.row ty k w x')) :: h))
     | none => False) else False
    | .own i => (match h.get i with
     | some (.row ty' ko r x) => bif Nat.beq ko k && Nat.beq ty' ty then (match catZ r x r' x' with
      | some (w, z) => VC (capOk bytes (lenRX r x) (lenRX r' x')) (K (setD d (.own n) m) ((n, some (.row ty k w z)) :: (i, none) :: h))
      | none => False) else False
     | _ => False)
    | _ => False)
   | none => False
  | _, _ => False
 | .clr k z x => match evX m x with
  | some (.ovw i lo hi) => match h.get i with
   | some (.row ty ko r []) => bif Nat.beq ko k && z.kd == k && z.stOk h.toHp && z.free then
     VC (lo ≤ hi ∧ hi = r.len) (match d with
      | none => K m ((i, some (.row ty ko (r.take lo) (List.replicate (hi - lo) (ofT z)))) :: h)
      | some _ => K (setD d (.raw T.un) m) ((i, some (.row ty ko (r.take lo) (List.replicate (hi - lo) (ofT z)))) :: h)) else False
   | _ => False
  | _ => False
 | .mso ty k z nn ps => match bareL m (ps.map fun p => p.2) with
  | some (vs, s) => match putZ nn ps vs (List.replicate nn (ofT z)) with
   | some l => bif (z.kd == k) && z.free && kdL k vs && stOkL h vs && Nat.ble (nn * szK k) 16777216 && kPos k then s.vc none (K (setD d (.own n) m) ((n, some (.row ty k .nil l)) :: h)) else False
   | none => False
  | none => False
 | .isnil x => match evX m x with
  | some (.row _ _ r) => NilZ (r.len = 0) (K (setD d (.bool true) m) h) (K (setD d (.bool false) m) h)
  | some (.own i) => match h.get i with
   | some (.row _ ko r []) => bif Nat.beq ko mapK then False else NilZ (r.len = 0) (K (setD d (.bool true) m) h) (K (setD d (.bool false) m) h)
   | _ => False
  | _ => False
 | _ => False
def opZ (P : Program) (dr : Bool) (nx n : Nat) (o : AOper) (K : Fm → Hz → Prop) (m : Fm) (h : Hz) : Prop :=
 match guardZ m o.g with
 | none => False
 | some g => bif flagB nx o m then
   (match o.op with
   | .call f xs => (match bareL m xs with
    | some (l, s) => s.vc g (CallZ P dr g f l h n fun v h' => v.seq fun v => K (setD o.d (cndV g v) m) h')
    | none => False)
   | .callv x xs => (match evX m x, bareL m xs with
    | some v, some (l, s) => (match v.bare with
     | (.fn f cap, s0) => (s0.and s).vc g (bif Nat.blt f 4096 then CallZ P dr g f (l ++ cap) h n (fun v h' => v.seq fun v => K (setD o.d (cndV g v) m) h') else CallZ P dr g (f % 4096) (.agg cap :: l) h n (fun v h' => v.seq fun v => K (setD o.d (cndV g v) m) h'))
     | _ => False)
    | _, _ => False)
   | op => (match qz m h op with
    | some (v, s) => s.vc g (v.seq fun v => K (setD o.d (cndV g v) m) h)
    | none => (match g with
     | none => effZ o.d n m h K op
     | some b => Fork b (effZ o.d n m h K op) (K (setD o.d (.cnd false (.int 0)) m) h))))
   else False
def azOps (P : Program) (dr : Bool) (ml : Nat) (nx : Nat) (K : Fm → Hz → Nat → Prop) : List AOper → Nat → Fm → Hz → Prop
 | [], _, m, h => K m h (nx + ml)
 | o :: r, i, m, h => opZ P dr nx (nx + i) o (azOps P dr ml nx K r (i + 1)) m h
abbrev Qz := AExit → Fm → Hz → Nat → Prop
def Lift (N pn : Nat) (Q : Qz) (e : AExit) (s : AS) : Prop := ∃ m h, s.fr.length = N ∧ Rp m s.fr ∧ s.hp = h.toHp ∧ s.pin = pn ∧ Q e m h s.nx
structure LoopZ (P : Program) (N pn : Nat) (b : ACode) (Q : Qz) (m : Fm) (h : Hz) (nx : Nat) : Prop where
 ok : ∀ fr, fr.length = N → Rp m fr → LoopA (aw P b) (Lift N pn Q) ⟨fr, h.toHp, nx, pn⟩
def az (P : Program) (N pn : Nat) : ACode → Qz → Fm → Hz → Nat → Prop
 | .skip, Q, m, h, nx => Q .normal m h nx
 | .reg dr ops, Q, m, h, nx => azOps P dr ops.length nx (fun m h nx => Q .normal m h nx) ops 0 m h
 | .seq a b, Q, m, h, nx => az P N pn a (fun e m h nx => match e with | .normal => az P N pn b Q m h nx | e => Q e m h nx) m h nx
 | .cond c a b, Q, m, h, nx =>
  match evX m c with
  | some (.bool t) => Fork t (az P N pn a Q m h nx) (az P N pn b Q m h nx)
  | _ => False
 | .blk id b, Q, m, h, nx => az P N pn b (fun e m h nx => match e with | .exit j => (bif Nat.beq j id then Q .normal m h nx else Q (.exit j) m h nx) | e => Q e m h nx) m h nx
 | .exit id, Q, m, h, nx => Q (.exit id) m h nx
 | .ret, Q, m, h, nx => Q .ret m h nx
 | .loop b, Q, m, h, nx => LoopZ P N pn b Q m h nx
def dstOps (N : Nat) : List AOper → Bool
 | [] => true
 | o :: r => (match o.d with | some d => Nat.blt d N | none => true) && dstOps N r
def dstOk (N : Nat) : ACode → Bool
 | .skip => true
 | .reg _ ops => dstOps N ops
 | .seq a b => dstOk N a && dstOk N b
 | .cond _ a b => dstOk N a && dstOk N b
 | .blk _ b => dstOk N b
 | .exit _ => true
 | .ret => true
 | .loop b => dstOk N b
end Go.Ab
namespace Go.Ab
section
variable {P : Program} {m : Fm} {h : Hz}
theorem toHp_put {i : Nat} {o : Option OV} : Hz.toHp ((i, o) :: h) = upd h.toHp i (o.map OV.toOb) := by
 funext j
 simp only [Hz.toHp, Hz.get, upd]
 by_cases e : j = i
 ·subst e; simp
 ·have : Nat.beq i j = false := by
   cases hb : Nat.beq i j with
   | false => rfl
   | true => exact absurd (beqN hb).symm e
  simp [this, e]
theorem Rp.put {fr : List T} (R : Rp m fr) {d : Option Nat} {v : V} (hd : ∀ i, d = some i → i < fr.length) {s : AS} (hs : s.fr = fr) : Rp (setD d v m) (s.put d v.toT).fr := by
 subst hs
 cases d with
 | none => exact R
 | some d =>
  intro i u hu
  simp only [setD, Fm.get] at hu
  show (s.fr.set d v.toT)[i]? = _
  cases hb : Nat.beq d i with
  | true =>
   rw [hb] at hu; simp at hu; subst hu
   have := beqN hb; subst this
   rw [List.getElem?_set_self (hd d rfl)]
  | false =>
   rw [hb] at hu
   have hne : d ≠ i := Nat.ne_of_beq_eq_false hb
   rw [List.getElem?_set_ne hne]
   exact R i u hu
theorem put_len {s : AS} {d : Option Nat} {t : T} : (s.put d t).fr.length = s.fr.length := by cases d <;> simp [AS.put]
theorem vc_inv {g : Option Bool} {k : Prop} {s : Sd} (q : s.vc g k) : ((g = none ∨ g = some true) → s.holds) ∧ k := by
 unfold Sd.vc at q
 split at q
 ·exact ⟨fun _ => trivial, q⟩
 ·split at q
  ·obtain ⟨a, b⟩ := q; exact ⟨fun _ => a, b⟩
  ·obtain ⟨a, b⟩ := q; exact ⟨fun hg => a (by rcases hg with e | e <;> cases e; rfl), b⟩
theorem guardZ_gv {s : AS} (R : Rp m s.fr) {g : Option (Nat × Bool)} {g' : Option Bool} (q : guardZ m g = some g') : (gv g s = some true ∧ (g' = none ∨ g' = some true)) ∨ (gv g s = some false ∧ g' = some false) := by
 unfold guardZ at q
 split at q
 ·cases q; exact .inl ⟨rfl, .inl rfl⟩
 ·rename_i d w
  split at q
  ·rename_i b e
   cases q
   have hg : s.fr.getD d .any = .lit (.bool b) := R.getD e
   simp only [gv, hg]
   cases w <;> cases b <;> simp
  ·rename_i c b e
   cases q
   have hg : s.fr.getD d .any = bif c then .lit (.bool b) else T.un := R.getD e
   cases c with
   | true => simp only [gv, hg, cond_true]; cases w <;> cases b <;> simp
   | false => simp only [gv, hg, cond_false]; simp
  ·cases q
theorem ltX_all {s : AS} (R : Rp m s.fr) {nx : Nat} : ∀ {xs : List X}, ltX nx m xs = true → (xs.all fun x => T.lt nx (s.ev x)) = true := by
 intro xs
 induction xs with
 | nil => intro _; rfl
 | cons x r ih =>
  intro q
  simp only [ltX, Bool.and_eq_true] at q
  simp only [List.all_cons, Bool.and_eq_true]
  refine ⟨?_, ih q.2⟩
  have := q.1
  split at this
  ·rename_i v e; rw [R.ev e]; exact this
  ·cases this
theorem nidX_all {s : AS} (R : Rp m s.fr) {i : Nat} : ∀ {xs : List X}, nidX i m xs = true → (xs.all fun x => T.nid i (s.ev x)) = true := by
 intro xs
 induction xs with
 | nil => intro _; rfl
 | cons x r ih =>
  intro q
  simp only [nidX, Bool.and_eq_true] at q
  simp only [List.all_cons, Bool.and_eq_true]
  refine ⟨?_, ih q.2⟩
  have := q.1
  split at this
  ·rename_i v e; rw [R.ev e]; exact this
  ·cases this
theorem neB_ok {s : AS} (R : Rp m s.fr) {xs : List X} : ∀ {l : List Nat}, neB m xs l = true → neOk s xs l = true := by
 intro l
 induction l with
 | nil => intro _; rfl
 | cons d r ih =>
  intro q
  simp only [neB, Bool.and_eq_true] at q
  simp only [neOk, Bool.and_eq_true]
  refine ⟨?_, ih q.2⟩
  have := q.1
  split at this
  ·rename_i i j o e
   have hg : s.fr.getD d .any = .ptr i j o := R.getD e
   simp only [AS.obj, hg]
   exact nidX_all R this
  ·cases this
theorem flagB_ok {s : AS} (R : Rp m s.fr) {o : AOper} (q : flagB s.nx o m = true) : flagOk o s := by
 unfold flagB at q
 simp only [Bool.and_eq_true, Bool.or_eq_true, Bool.not_eq_true'] at q
 refine ⟨fun hf => ?_, neB_ok R q.2⟩
 have h1 : flagS s.nx m o.op = true := by
  rcases q.1 with h | h
  ·rw [hf] at h; cases h
  ·exact h
 unfold flagS at h1
 split at h1
 ·rename_i k x v e
  rw [e]
  split at h1
  ·rename_i u hu; simp only; rw [R.ev hu]; exact h1
  ·cases h1
 ·rename_i e
  rw [e]
  split at h1
  ·rename_i u hu; simp only; rw [R.ev hu]; exact h1
  ·cases h1
 ·cases h1
 ·cases h1
 ·rename_i op h2 h3 h4 h5
  have := ltX_all R h1
  split
  ·rename_i e; exact absurd e (h2 _ _ _)
  ·rename_i e; exact absurd e (h3 _ _ _ _ _)
  ·rename_i e; exact absurd e (h4 _ _ _)
  ·rename_i e; exact absurd e (h5 _ _ _)
  ·exact this
def Kz (N pn nx : Nat) (K : Fm → Hz → Prop) (s : AS) : Prop := ∃ m h, s.fr.length = N ∧ Rp m s.fr ∧ s.hp = h.toHp ∧ s.pin = pn ∧ s.nx = nx ∧ K m h
theorem kdL1 {k : Nat} {v : V} (q : kdL k [v] = true) : v.toT.kd = k := V.kd_toT (kdL_get q v (by simp))
theorem rep_toL {n : Nat} {z : T} {r : Rw} (q : repR n z = some r) : r.toL = List.replicate n z := by
 unfold repR at q
 split at q <;> cases q
 ·simp [Rw.toL]
 ·simp [Rw.toL]
 ·simp only [Rw.toL, List.map_replicate]; rw [eS_of]
theorem Rw.set_toL {j : Nat} {v : V} {r w : Rw} (q : r.set j v = some w) : w.toL = r.toL.set j v.toT := by
 unfold Rw.set at q
 split at q <;> first | (cases q; done) | (cases q; simp [Rw.toL, V.toT, Dat.toT, List.map_set])
theorem srcZ_ok {k : Nat} {y : V} {r : Rw} {x : List V} (q : srcZ h k y = some (r, x)) : srcT h.toHp k y.toT = .list (r.toL ++ V.toL x) := by
 unfold srcZ at q
 split at q
 ·rename_i k' f w
  obtain ⟨g, q⟩ := guardO_inv q; cases q
  simp only [V.toT, srcT, V.toL, List.append_nil]
  rcases kOk_or g with rfl | e
  ·cases r.toL <;> simp
  ·rw [e]
 ·rename_i k' f l
  obtain ⟨g, q⟩ := guardO_inv q; cases q
  have := beqN g; subst this
  simp only [V.toT, srcT, Rw.toL, List.nil_append]
  cases hx : V.toL x <;> simp
 ·split at q
  ·rename_i o _ ty ko w z e
   obtain ⟨g, q⟩ := guardO_inv q; cases q
   have := beqN g; subst this
   simp [V.toT, srcT, toHp_some e, OV.toOb]
  ·cases q
 ·cases q
theorem lenRX_eq {r : Rw} {x : List V} : lenRX r x = (r.toL ++ V.toL x).length := by
 unfold lenRX
 split
 ·simp [V.toL, Rw.len_toL]
 ·simp [toL_length, Rw.len_toL]
theorem catZ_ok {r r' w : Rw} {x x' z : List V} (q : catZ r x r' x' = some (w, z)) : w.toL ++ V.toL z = (r.toL ++ V.toL x) ++ (r'.toL ++ V.toL x') := by
 unfold catZ at q
 split at q
 ·split at q
  ·rename_i w' e; cases q; rw [Rw.app_toL e]; simp [V.toL]
  ·cases q
 ·cases q; simp [toL_append, Rw.toL]
 ·cases q
theorem eff_sound {N pn n nx : Nat} {d : Option Nat} {op : AOp} {K : Fm → Hz → Prop} {s : AS} {dr : Bool} (hl : s.fr.length = N) (hd : ∀ i, d = some i → i < N) (R : Rp m s.fr) (hh : s.hp = h.toHp) (hp : s.pin = pn) (hn : s.nx = nx) (q : effZ d n m h K op) :
  opA P dr n d op (Kz N pn nx K) s := by
 have hd' : ∀ i, d = some i → i < s.fr.length := fun i e => by rw [hl]; exact hd i e
 have fin : ∀ {v : V} {h' : Hz}, K (setD d v m) h' → Kz N pn nx K { (s.put d v.toT) with hp := h'.toHp } := fun {v h'} hk =>
  ⟨_, h', by show (s.put d v.toT).fr.length = N; rw [put_len, hl], R.put (v := v) hd' rfl, rfl, by show (s.put d v.toT).pin = pn; cases d <;> exact hp, by show (s.put d v.toT).nx = nx; cases d <;> exact hn, hk⟩
 unfold effZ at q
 split at q
 ·rename_i ty k x
  split at q
  ·rename_i v e
   split at q
   rename_i v' s' hb
   cases g : kdL k [v'] && v'.stOk h && kPos k with
   | false => rw [g] at q; exact q.elim
   | true =>
    rw [g] at q
    simp only [Bool.and_eq_true] at g
    simp only [cond_true] at q
    obtain ⟨hs, hk⟩ := vc_inv q
    have ev : s.ev x = v'.toT := by rw [R.ev e]; exact bare_sound hb (hs (.inl rfl))
    simp only [opA]
    rw [ev, kdL1 g.1.1, hh, V.stOk_toT g.1.2, g.2]
    refine ⟨by simp, ?_⟩
    have := fin hk
    rw [toHp_put] at this
    exact this
  ·exact q.elim
 ·rename_i ty k z
  cases g : z.kd == k && z.stOk h.toHp && z.free && kPos k with
  | false => rw [g] at q; exact q.elim
  | true =>
   rw [g] at q
   simp only [opA]
   rw [hh, g]
   refine ⟨rfl, ?_⟩
   have := fin q
   rw [toHp_put] at this
   simp only [Option.map_some, OV.toOb, ofT_toT] at this
   exact this
 ·rename_i ty k bytes z x y
  split at q
  ·rename_i a b e1 e2
   cases g : z.kd == k && z.stOk h.toHp && z.free && kPos k with
   | false => rw [g] at q; exact q.elim
   | true =>
    rw [g] at q
    simp only [cond_true] at q
    split at q
    ·rename_i r er
     obtain ⟨c, hk⟩ := q
     simp only [opA]
     rw [R.ev e1, R.ev e2]
     simp only [V.toT]
     rw [hh, g]
     refine ⟨rfl, c, ?_⟩
     have := fin hk
     rw [toHp_put] at this
     simp only [Option.map_some, OV.toOb, V.toL, List.append_nil] at this
     have hr : r.toL = List.replicate a.toNat z := by
      cases hz : isZero (.int a) with
      | false => rw [hz] at er; exact rep_toL er
      | true =>
       rw [hz] at er; cases er
       unfold isZero at hz
       split at hz
       ·rename_i e; cases e; rfl
       ·cases hz
     rw [hr] at this
     exact this
    ·exact q.elim
  ·exact q.elim
 ·rename_i k x v
  split at q
  ·rename_i i j off v0 e1 e2
   split at q
   rename_i v' s' hb
   cases g : kdL k [v'] && v'.stOk h with
   | false => rw [g] at q; exact q.elim
   | true =>
    rw [g] at q
    simp only [Bool.and_eq_true] at g
    simp only [cond_true] at q
    have fin2 : ∀ {h' : Hz}, K m h' → Kz N pn nx K { s with hp := h'.toHp } := fun {h'} hk => ⟨m, h', hl, R, rfl, hp, hn, hk⟩
    have ex : s.ev x = .ptr i j off := R.ev e1
    simp only [opA]
    rw [ex]
    simp only
    split at q
    ·rename_i ty ko w eo
     rw [hh, toHp_some eo]
     simp only [OV.toOb]
     cases hj : Nat.beq j 0 with
     | false => rw [hj] at q; exact q.elim
     | true =>
      have := beqN hj; subst this
      rw [hj] at q
      simp only [cond_true] at q
      cases hb2 : (Nat.beq off 0 && Nat.beq ko k) with
      | true =>
       rw [hb2] at q
       simp only [cond_true] at q
       obtain ⟨hs, hk⟩ := vc_inv q
       have ev : s.ev v = v'.toT := by rw [R.ev e2]; exact bare_sound hb (hs (.inl rfl))
       simp only [Bool.and_eq_true] at hb2
       have f1 := beqN hb2.1; have f2 := beqN hb2.2; subst f1; subst f2
       rw [ev, kdL1 g.1, V.stOk_toT g.2]
       refine ⟨by simp, by simp, by simp, ?_⟩
       have := fin2 hk
       rw [toHp_put] at this
       simp only [BEq.rfl, Bool.and_self, cond_true, List.set_cons_zero]
       exact this
      | false =>
       rw [hb2] at q
       simp only [cond_false] at q
       cases hc : (!(Nat.beq ko 0) && partOk (szK ko) off k) with
       | false => rw [hc] at q; exact q.elim
       | true =>
        rw [hc] at q
        simp only [cond_true] at q
        split at q
        ·rename_i w' hw
         rw [V.force_eq] at q
         obtain ⟨hs, hk⟩ := vc_inv q
         have ev : s.ev v = v'.toT := by rw [R.ev e2]; exact bare_sound hb (hs (.inl rfl))
         have hb' : (off == 0 && ko == k) = false := by
          rw [Bool.and_eq_false_iff] at hb2 ⊢
          rcases hb2 with hb2 | hb2
          ·left; simpa using Nat.ne_of_beq_eq_false hb2
          ·right; simpa using Nat.ne_of_beq_eq_false hb2
         simp only [Bool.and_eq_true] at hc
         rw [ev, kdL1 g.1, V.stOk_toT g.2]
         refine ⟨by simp, by simp, ?_, ?_⟩
         ·simp only [hb', Bool.false_or, Bool.and_eq_true]; exact ⟨bneN hc.1, hc.2⟩
         ·have := fin2 hk
          rw [toHp_put] at this
          simp only [hb', cond_false, List.set_cons_zero, List.getD_cons_zero]
          have ew : w.toT.splice off v'.toT = w'.toT := by
           unfold setCells at hw
           split at hw
           ·rename_i l c f1 f2
            cases hw
            unfold T.splice
            rw [V.cells_toT f1, V.cells_toT f2]
            simp only [V.toT, toL_append, toL_take, toL_drop, toL_length]
           ·cases hw
          rw [ew]
          exact this
        ·exact q.elim
    ·rename_i ty ko r eo
     rw [hh, toHp_some eo]
     simp only [OV.toOb, V.toL, List.append_nil]
     cases hb2 : (Nat.beq off 0 && Nat.beq ko k) with
     | false => rw [hb2] at q; exact q.elim
     | true =>
      rw [hb2] at q
      simp only [cond_true] at q
      split at q
      ·rename_i r' hr
       obtain ⟨hs, hk0⟩ := vc_inv q
       obtain ⟨hrng, hk⟩ := hk0
       have ev : s.ev v = v'.toT := by rw [R.ev e2]; exact bare_sound hb (hs (.inl rfl))
       simp only [Bool.and_eq_true] at hb2
       have f1 := beqN hb2.1; have f2 := beqN hb2.2; subst f1; subst f2
       rw [Rw.rng_iff] at hrng
       rw [ev, kdL1 g.1, V.stOk_toT g.2]
       refine ⟨by simp, by rw [Rw.len_toL]; omega, by simp, ?_⟩
       have := fin2 hk
       rw [toHp_put] at this
       simp only [Option.map_some, OV.toOb, V.toL, List.append_nil, Rw.set_toL hr] at this
       simp only [BEq.rfl, Bool.and_self, cond_true]
       exact this
      ·exact q.elim
    ·exact q.elim
  ·exact q.elim
 ·rename_i ty k bytes x y
  split at q
  ·rename_i vx vy e1 e2
   split at q
   ·rename_i r' x' es
    simp only [opA]
    rw [R.ev e1, R.ev e2, hh, srcZ_ok es]
    simp only
    split at q
    ·rename_i k'
     obtain ⟨c, hk⟩ := q
     have e0 : (V.row k' true Rw.nil).toT = .sl k' true [] := rfl
     rw [e0]
     unfold capOk at c
     rw [lenRX_eq] at c
     refine ⟨.inr rfl, .inl rfl, by simpa using c.1, by simpa using c.2, ?_⟩
     have := fin hk
     rw [toHp_put] at this
     exact this
    ·rename_i k' r hnn
     cases hb2 : Nat.beq k' k with
     | false => rw [hb2] at q; exact q.elim
     | true =>
      rw [hb2] at q
      have := beqN hb2; subst this
      simp only [cond_true] at q
      split at q
      ·rename_i w hw
       obtain ⟨c, hk⟩ := q
       simp only [V.toT]
       unfold capOk at c
       rw [lenRX_eq] at c
       refine ⟨.inl trivial, ?_, by rw [Rw.len_toL]; exact c.2.1, by rw [Rw.len_toL]; exact c.2.2, ?_⟩
       ·rcases c.1 with c | c
        ·left; exact List.eq_nil_of_length_eq_zero (by rw [Rw.len_toL]; exact c)
        ·right; intro e; rw [e] at c; simp at c
       ·have := fin hk
        rw [toHp_put] at this
        simp only [Option.map_some, OV.toOb, Rw.app_toL hw, List.append_assoc] at this
        exact this
      ·exact q.elim
    ·rename_i i
     split at q
     ·rename_i ty' ko r xx eo
      cases hb2 : (Nat.beq ko k && Nat.beq ty' ty) with
      | false => rw [hb2] at q; exact q.elim
      | true =>
       rw [hb2] at q
       simp only [cond_true] at q
       simp only [Bool.and_eq_true] at hb2
       have f1 := beqN hb2.1; have f2 := beqN hb2.2; subst f1; subst f2
       split at q
       ·rename_i w z hw
        obtain ⟨c, hk⟩ := q
        simp only [V.toT, toHp_some eo, OV.toOb]
        unfold capOk at c
        rw [lenRX_eq, lenRX_eq] at c
        refine ⟨by simp, c.1, c.2, ?_⟩
        have := fin hk
        rw [toHp_put, toHp_put] at this
        simp only [Option.map_some, Option.map_none, OV.toOb, catZ_ok hw] at this
        exact this
       ·exact q.elim
     ·exact q.elim
    ·exact q.elim
   ·exact q.elim
  ·exact q.elim
 ·rename_i k z x
  split at q
  ·rename_i i lo hi e
   split at q
   ·rename_i ty ko r eo
    cases g : (Nat.beq ko k && z.kd == k && z.stOk h.toHp && z.free) with
    | false => rw [g] at q; exact q.elim
    | true =>
     rw [g] at q
     simp only [cond_true] at q
     obtain ⟨⟨c1, c2⟩, hk⟩ := q
     simp only [Bool.and_eq_true] at g
     obtain ⟨⟨⟨g1, g2⟩, g3⟩, g4⟩ := g
     have f1 := beqN g1; subst f1
     simp only [opA]
     rw [R.ev e]
     simp only [V.toT, hh, toHp_some eo, OV.toOb]
     refine ⟨by simp [g2, g3, g4], by simp [Rw.len_toL, c2, V.toL], ?_⟩
     have el : (r.take lo).toL ++ V.toL (List.replicate (hi - lo) (ofT z)) = List.take lo (r.toL ++ V.toL []) ++ List.replicate (hi - lo) z ++ List.drop hi (r.toL ++ V.toL []) := by
      rw [Rw.take_toL, toL_map, List.map_replicate, ofT_toT]
      simp [V.toL, Rw.len_toL, c2]
     cases d with
     | none =>
      simp only at hk
      refine ⟨_, _, hl, R, ?_, hp, hn, hk⟩
      rw [toHp_put]
      simp only [Option.map_some, OV.toOb, el]
     | some dd =>
      simp only at hk
      have := fin hk
      rw [toHp_put] at this
      simp only [Option.map_some, OV.toOb, el] at this
      exact this
   ·exact q.elim
  ·exact q.elim
 ·rename_i ty k z nn ps
  split at q
  ·rename_i vs s' hb
   split at q
   ·rename_i l hl
    cases g : ((z.kd == k) && z.free && kdL k vs && stOkL h vs && Nat.ble (nn * szK k) 16777216 && kPos k) with
    | false => rw [g] at q; exact q.elim
    | true =>
     rw [g] at q
     simp only [cond_true] at q
     obtain ⟨hs, hk⟩ := vc_inv q
     have he := bareL_ev R hb (hs (.inl rfl))
     have he' : (ps.map fun p => s.ev p.2) = V.toL vs := by rw [← he]; simp
     simp only [Bool.and_eq_true] at g
     obtain ⟨⟨⟨⟨⟨g1, g2⟩, g3⟩, g4⟩, g5⟩, g6⟩ := g
     obtain ⟨i1, i2⟩ := putZ_ok hl he' g3
     have e : V.toL (List.replicate nn (ofT z)) = List.replicate nn z := by rw [toL_map, List.map_replicate, ofT_toT]
     rw [e] at i2
     simp only [opA]
     rw [i1, i2, he', hh, stOkL_all g4, g1, g2, g5, g6]
     refine ⟨rfl, ?_⟩
     have := fin hk
     rw [toHp_put] at this
     simp only [Option.map_some, OV.toOb, Rw.toL, List.nil_append] at this
     exact this
   ·exact q.elim
  ·exact q.elim
 ·rename_i x
  split at q
  ·rename_i k' f r e
   obtain ⟨q1, q2⟩ := q
   simp only [opA]
   rw [R.ev e]
   have f1 := fun hz => fin (q1 hz)
   have f2 := fin q2
   rw [← hh] at f1 f2
   refine ⟨fun hl => ?_, ?_⟩
   ·have := f1 (by rw [← Rw.len_toL]; exact congrArg List.length hl)
    rw [show ({ (s.put d (V.bool true).toT) with hp := s.hp } : AS) = s.put d (.lit (.bool true)) by cases d <;> rfl] at this
    exact this
   ·rw [show ({ (s.put d (V.bool false).toT) with hp := s.hp } : AS) = s.put d (.lit (.bool false)) by cases d <;> rfl] at f2
    exact f2
  ·rename_i i e
   split at q
   ·rename_i ty ko r eo
    cases hb : Nat.beq ko mapK with
    | true => rw [hb] at q; exact q.elim
    | false =>
     rw [hb] at q
     obtain ⟨q1, q2⟩ := q
     simp only [opA]
     rw [R.ev e]
     have f1 := fun hz => fin (q1 hz)
     have f2 := fin q2
     rw [← hh] at f1 f2
     simp only [V.toT, hh, toHp_some eo, OV.toOb]
     refine ⟨fun hl => ?_, ?_, Nat.ne_of_beq_eq_false hb⟩
     ·have := f1 (by rw [← Rw.len_toL]; simpa [V.toL] using congrArg List.length hl)
      rw [show ({ (s.put d (V.bool true).toT) with hp := s.hp } : AS) = s.put d (.lit (.bool true)) by cases d <;> rfl] at this
      exact this
     ·rw [show ({ (s.put d (V.bool false).toT) with hp := s.hp } : AS) = s.put d (.lit (.bool false)) by cases d <;> rfl] at f2
      exact f2
   ·exact q.elim
  ·exact q.elim
 ·exact q.elim
end
end Go.Ab
namespace Go.Ab
section
variable {P : Program} {m : Fm} {h : Hz}
theorem Kz.put {N pn nx : Nat} {K : Fm → Hz → Prop} {s : AS} {d : Option Nat} {v : V} {t : T} {h' : Hz} (hl : s.fr.length = N) (hd : ∀ i, d = some i → i < N) (R : Rp m s.fr) (hp : s.pin = pn) (hn : s.nx = nx) (ht : t = v.toT) (hk : K (setD d v m) h') :
  Kz N pn nx K { (s.put d t) with hp := h'.toHp } := by
 subst ht
 exact ⟨_, h', by show (s.put d v.toT).fr.length = N; rw [put_len, hl], R.put (v := v) (fun i e => by rw [hl]; exact hd i e) rfl, rfl, by show (s.put d v.toT).pin = pn; cases d <;> exact hp, by show (s.put d v.toT).nx = nx; cases d <;> exact hn, hk⟩
theorem call_sound {N pn nx n : Nat} {K : Fm → Hz → Prop} {s : AS} {d : Option Nat} {dr : Bool} {g : Option Bool} {f : FuncId} {l : List V} (hl : s.fr.length = N) (hd : ∀ i, d = some i → i < N) (R : Rp m s.fr) (hh : s.hp = h.toHp) (hp : s.pin = pn) (hn : s.nx = nx)
  (hg : g = none ∨ g = some true) (q : CallZ P dr g f l h n fun v h' => v.seq fun v => K (setD d (cndV g v) m) h') : callA P dr n d f (V.toL l) (Kz N pn nx K) s := by
 unfold callA
 rw [hh]
 rcases hg with rfl | rfl
 ·refine ACalls.mono q.ok ?_
  rintro t hp' ⟨v, h', e1, e2, e3, hk⟩
  rw [V.seq_eq] at hk
  subst e2
  refine ⟨fun e => ⟨by rw [(e3 e).1], (e3 e).2⟩, Kz.put (v := v) hl hd R hp hn e1 hk⟩
 ·obtain ⟨v, c, hf, hk⟩ := q.ok
  rw [V.seq_eq] at hk
  refine ACalls.mono (c rfl) ?_
  rintro t hp' ⟨e1, e2⟩
  subst e2
  refine ⟨fun _ => ⟨rfl, by rw [e1]; exact V.free_toT v hf⟩, Kz.put (v := cndV (some true) v) hl hd R hp hn (by rw [e1]; exact (cndV_true v).symm) hk⟩
theorem opZ_sound {N pn nx n : Nat} {K : Fm → Hz → Prop} {s : AS} {o : AOper} {dr : Bool} (hl : s.fr.length = N) (hd : ∀ i, o.d = some i → i < N) (R : Rp m s.fr) (hh : s.hp = h.toHp) (hp : s.pin = pn) (hn : s.nx = nx)
  (q : opZ P dr nx n o K m h) : (gv o.g s = some true ∧ flagOk o s ∧ opA P dr n o.d o.op (Kz N pn nx K) s) ∨ (gv o.g s = some false ∧ Kz N pn nx K (s.put o.d T.un)) := by
 unfold opZ at q
 split at q
 ·exact q.elim
 ·rename_i g hg
  cases hf : flagB nx o m with
  | false => rw [hf] at q; exact q.elim
  | true =>
   rw [hf] at q
   simp only [cond_true] at q
   have hfl : flagOk o s := flagB_ok R (by rw [hn]; exact hf)
   have un : ∀ {v : V} {h' : Hz}, h' = h → K (setD o.d (cndV (some false) v) m) h' → Kz N pn nx K (s.put o.d T.un) := fun {v h'} e hk => by
    subst e
    have := Kz.put (s := s) (v := cndV (some false) v) (t := T.un) hl hd R hp hn (cndV_false v).symm hk
    rw [← hh] at this
    have e2 : ({ (s.put o.d T.un) with hp := s.hp } : AS) = s.put o.d T.un := by
     cases o.d <;> rfl
    rw [e2] at this
    exact this
   rcases guardZ_gv R hg with ⟨h1, h2⟩ | ⟨h1, rfl⟩
   ·refine .inl ⟨h1, hfl, ?_⟩
    split at q
    ·rename_i f xs eo
     split at q
     ·rename_i l sd hb
      obtain ⟨hs, q⟩ := vc_inv q
      rw [eo]
      simp only [opA]
      rw [bareL_ev R hb (hs h2)]
      exact call_sound hl hd R hh hp hn h2 q
     ·exact q.elim
    ·rename_i x xs eo
     split at q
     ·rename_i v0 l sd e1 hb
      split at q
      ·rename_i f cap s0 hb0
       obtain ⟨hs, q⟩ := vc_inv q
       have hs2 := Sd.and_holds.1 (hs h2)
       rw [eo]
       simp only [opA]
       rw [R.ev e1, bare_sound hb0 hs2.1]
       simp only [V.toT]
       rw [bareL_ev R hb hs2.2, ← toL_append]
       cases hbl : Nat.blt f 4096 with
       | true => rw [hbl] at q; exact call_sound hl hd R hh hp hn h2 q
       | false => rw [hbl] at q; exact call_sound (l := .agg cap :: l) hl hd R hh hp hn h2 q
      ·exact q.elim
     ·exact q.elim
    ·split at q
     ·rename_i v sd hq
      obtain ⟨hs, hk⟩ := vc_inv q
      rw [V.seq_eq] at hk
      obtain ⟨hqu, hc, ht⟩ := qz_sound R hh hq (hs h2)
      rw [opA_quiet hqu]
      refine ⟨hc, ?_⟩
      have := Kz.put (s := s) (v := cndV g v) (t := qt s o.op) hl hd R hp hn (by rw [ht]; rcases h2 with rfl | rfl; rfl; exact (cndV_true v).symm) hk
      rw [← hh] at this
      have e2 : ({ (s.put o.d (qt s o.op)) with hp := s.hp } : AS) = s.put o.d (qt s o.op) := by cases o.d <;> rfl
      rw [e2] at this
      exact this
     ·split at q
      ·exact eff_sound hl hd R hh hp hn q
      ·rename_i b _
       rcases h2 with h2 | h2
       ·cases h2
       ·cases h2
        obtain ⟨qa, _⟩ := q
        exact eff_sound hl hd R hh hp hn (qa rfl)
   ·refine .inr ⟨h1, ?_⟩
    split at q
    ·split at q
     ·obtain ⟨hs, q⟩ := vc_inv q
      obtain ⟨v, c, hf, hk⟩ := q.ok
      rw [V.seq_eq] at hk
      exact un rfl hk
     ·exact q.elim
    ·split at q
     ·rename_i v0 l sd e1 hb
      split at q
      ·rename_i f cap s0 hb0
       obtain ⟨hs, q⟩ := vc_inv q
       cases hbl : Nat.blt f 4096 with
       | true =>
        rw [hbl] at q
        obtain ⟨v, c, hf, hk⟩ := CallZ.ok q
        rw [V.seq_eq] at hk
        exact un rfl hk
       | false =>
        rw [hbl] at q
        obtain ⟨v, c, hf, hk⟩ := CallZ.ok q
        rw [V.seq_eq] at hk
        exact un rfl hk
      ·exact q.elim
     ·exact q.elim
    ·split at q
     ·obtain ⟨hs, hk⟩ := vc_inv q
      rw [V.seq_eq] at hk
      exact un rfl hk
     ·obtain ⟨_, qb⟩ := q
      exact un (v := .int 0) rfl (qb rfl)
theorem azOps_sound {N pn ml nx : Nat} {K : Fm → Hz → Nat → Prop} {dr : Bool} : ∀ {ops : List AOper} {i : Nat} {m : Fm} {h : Hz} {s : AS}, dstOps N ops = true → s.fr.length = N → Rp m s.fr → s.hp = h.toHp → s.pin = pn → s.nx = nx →
  azOps P dr ml nx K ops i m h → awOps P dr ml (fun s => ∃ m h, s.fr.length = N ∧ Rp m s.fr ∧ s.hp = h.toHp ∧ s.pin = pn ∧ K m h s.nx) ops i s := by
 intro ops
 induction ops with
 | nil =>
  intro i m h s _ hl R hh hp hn q
  exact ⟨m, h, hl, R, hh, hp, by show K m h (s.nx + ml); rw [hn]; exact q⟩
 | cons o r ih =>
  intro i m h s hd hl R hh hp hn q
  simp only [dstOps, Bool.and_eq_true] at hd
  have hd1 : ∀ j, o.d = some j → j < N := fun j e => by
   have := hd.1
   rw [e] at this
   simpa using this
  simp only [awOps]
  rw [guardA_iff]
  have next : ∀ s', s'.nx = s.nx → s'.pin = s.pin → Kz N pn nx (azOps P dr ml nx K r (i + 1)) s' → awOps P dr ml (fun s => ∃ m h, s.fr.length = N ∧ Rp m s.fr ∧ s.hp = h.toHp ∧ s.pin = pn ∧ K m h s.nx) r (i + 1) s' := by
   rintro s' _ _ ⟨m', h', a1, a2, a3, a4, a5, a6⟩
   exact ih hd.2 a1 a2 a3 a4 a5 a6
  rcases opZ_sound hl hd1 R hh hp hn q with ⟨h1, h2, h3⟩ | ⟨h1, h2⟩
  ·refine .inl ⟨h1, h2, ?_⟩
   rw [hn]
   exact opA_mono' next h3
  ·exact .inr ⟨h1, next _ (put_nx _ _ _) (put_pin _ _ _) h2⟩
theorem az_sound {N pn : Nat} : ∀ {c : ACode} {Q : Qz} {m : Fm} {h : Hz} {s : AS}, dstOk N c = true → s.fr.length = N → Rp m s.fr → s.hp = h.toHp → s.pin = pn → az P N pn c Q m h s.nx → aw P c (Lift N pn Q) s := by
 intro c
 induction c with
 | skip => intro Q m h s _ hl R hh hp q; exact ⟨m, h, hl, R, hh, hp, q⟩
 | reg dr ops =>
  intro Q m h s hd hl R hh hp q
  exact azOps_sound hd hl R hh hp rfl q
 | seq a b ia ib =>
  intro Q m h s hd hl R hh hp q
  simp only [dstOk, Bool.and_eq_true] at hd
  simp only [aw]
  refine aw_mono ?_ (ia hd.1 hl R hh hp q)
  rintro e s' ⟨m', h', b1, b2, b3, b4, b5⟩
  cases e with
  | normal => exact ib hd.2 b1 b2 b3 b4 b5
  | exit j => exact ⟨m', h', b1, b2, b3, b4, b5⟩
  | ret => exact ⟨m', h', b1, b2, b3, b4, b5⟩
 | cond c a b ia ib =>
  intro Q m h s hd hl R hh hp q
  simp only [dstOk, Bool.and_eq_true] at hd
  simp only [az] at q
  simp only [aw]
  split at q
  ·rename_i t e
   rw [R.ev e]
   obtain ⟨q1, q2⟩ := q
   exact ⟨fun e => ia hd.1 hl R hh hp (q1 e), fun e => ib hd.2 hl R hh hp (q2 e)⟩
  ·exact q.elim
 | blk id b ib =>
  intro Q m h s hd hl R hh hp q
  simp only [aw]
  refine aw_mono ?_ (ib hd hl R hh hp q)
  rintro e s' ⟨m', h', b1, b2, b3, b4, b5⟩
  cases e with
  | normal => exact ⟨m', h', b1, b2, b3, b4, b5⟩
  | ret => exact ⟨m', h', b1, b2, b3, b4, b5⟩
  | exit j =>
   simp only at b5 ⊢
   by_cases e : j = id
   ·subst e; simp at b5 ⊢; exact ⟨m', h', b1, b2, b3, b4, b5⟩
   ·have e1 : Nat.beq j id = false := by
     cases hb : Nat.beq j id with
     | false => rfl
     | true => exact absurd (beqN hb) e
    have e2 : (j == id) = false := by simpa using e
    rw [e1] at b5; rw [e2]
    exact ⟨m', h', b1, b2, b3, b4, b5⟩
 | exit i => intro Q m h s _ hl R hh hp q; exact ⟨m, h, hl, R, hh, hp, q⟩
 | ret => intro Q m h s _ hl R hh hp q; exact ⟨m, h, hl, R, hh, hp, q⟩
 | loop b ib =>
  intro Q m h s _ hl R hh hp q
  have := q.ok s.fr hl R
  rw [← hh, ← hp] at this
  simp only [aw]
  rw [hp] at this
  have e : (⟨s.fr, s.hp, s.nx, pn⟩ : AS) = s := by rw [← hp]
  rw [e] at this
  exact this
end
end Go.Ab
