/-
  The abstract layer, part 18: rules by which `aw` is worked out.
-/
import Derived.Laws.Strings
import Derived.Test.YtpcmibeefiajaaaGreatDoorLc
namespace Go.Ab
section
variable {P : Program} {dr : Bool} {n m : Nat} {d : Option Nat} {K : AS → Prop} {s : AS} {fr : List T} {h : Hp} {nx pn : Nat} {Q : AExit → AS → Prop}

/-! ### code -/
theorem aw_seq {a b : ACode} : aw P (.seq a b) Q ⟨fr, h, nx, pn⟩ = aw P a (fun e s' => match e with | .normal => aw P b Q s' | e => Q e s') ⟨fr, h, nx, pn⟩ := rfl
theorem aw_reg {ops : List AOper} : aw P (.reg dr ops) Q ⟨fr, h, nx, pn⟩ = awOps P dr ops.length (fun s' => Q .normal s') ops 0 ⟨fr, h, nx, pn⟩ := rfl
theorem aw_loop {b : ACode} : aw P (.loop b) Q ⟨fr, h, nx, pn⟩ = LoopA (aw P b) Q ⟨fr, h, nx, pn⟩ := rfl
theorem aw_skip : aw P .skip Q ⟨fr, h, nx, pn⟩ = Q .normal ⟨fr, h, nx, pn⟩ := rfl
theorem aw_exit {i : Nat} : aw P (.exit i) Q ⟨fr, h, nx, pn⟩ = Q (.exit i) ⟨fr, h, nx, pn⟩ := rfl
theorem aw_ret : aw P .ret Q ⟨fr, h, nx, pn⟩ = Q .ret ⟨fr, h, nx, pn⟩ := rfl
theorem aw_blk {i : Nat} {b : ACode} : aw P (.blk i b) Q ⟨fr, h, nx, pn⟩ = aw P b (fun e s' => match e with | .exit j => (bif j == i then Q .normal s' else Q (.exit j) s') | e => Q e s') ⟨fr, h, nx, pn⟩ := rfl

def condA (c : T) (yes no : Bool → Prop) : Prop :=
  match c with
  | .lit (.bool t) => (t = true → yes true) ∧ (t = false → no false)
  | _ => False
/-- A branch, not yet taken. -/
def Br (P : Program) (a : ACode) (Q : AExit → AS → Prop) (fr : List T) (h : Hp) (nx pn : Nat) (_ : Bool) : Prop := aw P a Q ⟨fr, h, nx, pn⟩
theorem Br_eq {a : ACode} {b : Bool} : Br P a Q fr h nx pn b = aw P a Q ⟨fr, h, nx, pn⟩ := rfl
theorem aw_cond {c : X} {a b : ACode} : aw P (.cond c a b) Q ⟨fr, h, nx, pn⟩ = condA (AS.ev ⟨fr, h, nx, pn⟩ c) (Br P a Q fr h nx pn) (Br P b Q fr h nx pn) := rfl
theorem condA_true {yes no : Bool → Prop} : condA (.lit (.bool true)) yes no = yes true := by simp [condA]
theorem condA_false {yes no : Bool → Prop} : condA (.lit (.bool false)) yes no = no false := by simp [condA]
theorem condA_bool {t : Bool} {yes no : Bool → Prop} : condA (.lit (.bool t)) yes no = ((t = true → yes true) ∧ (t = false → no false)) := rfl

/-! ### operations of a region -/
theorem ops_nil {i : Nat} : awOps P dr m K [] i ⟨fr, h, nx, pn⟩ = K ⟨fr, h, nx + m, pn⟩ := rfl
theorem ops_cons {i : Nat} {d : Option Nat} {op : AOp} {r : List AOper} : awOps P dr m K (⟨d, op, none, false, []⟩ :: r) i ⟨fr, h, nx, pn⟩ = opA P dr (nx + i) d op (awOps P dr m K r (i + 1)) ⟨fr, h, nx, pn⟩ := by
  simp [awOps, guardA, flagOk, neOk]
def gdA (c : T) (want : Bool) (yes : Bool → Prop) (no : Option Bool → Prop) : Prop :=
  match c with
  | .lit (.bool b) => (b = want → yes want) ∧ (b = !want → no (some !want))
  | .lit (.tuple _) => no none
  | _ => False
/-- The ways behind a guard, not yet taken. -/
def Gy (P : Program) (dr : Bool) (n : Nat) (d : Option Nat) (op : AOp) (K : AS → Prop) (g : Nat) (fr : List T) (h : Hp) (nx pn : Nat) (b : Bool) : Prop := opA P dr n d op K ⟨fr.set g (.lit (.bool b)), h, nx, pn⟩
def Gn (d : Option Nat) (K : AS → Prop) (g : Nat) (fr : List T) (h : Hp) (nx pn : Nat) : Option Bool → Prop
  | some b => K (AS.put ⟨fr.set g (.lit (.bool b)), h, nx, pn⟩ d T.un)
  | none => K (AS.put ⟨fr, h, nx, pn⟩ d T.un)
theorem Gy_eq {op : AOp} {g : Nat} {b : Bool} : Gy P dr n d op K g fr h nx pn b = opA P dr n d op K ⟨fr.set g (.lit (.bool b)), h, nx, pn⟩ := rfl
theorem Gn_some {g : Nat} {b : Bool} : Gn d K g fr h nx pn (some b) = K (AS.put ⟨fr.set g (.lit (.bool b)), h, nx, pn⟩ d T.un) := rfl
theorem Gn_none {g : Nat} : Gn d K g fr h nx pn none = K (AS.put ⟨fr, h, nx, pn⟩ d T.un) := rfl
theorem ops_guard {i g : Nat} {want : Bool} {d : Option Nat} {op : AOp} {r : List AOper} : awOps P dr m K (⟨d, op, some (g, want), false, []⟩ :: r) i ⟨fr, h, nx, pn⟩ =
    gdA (fr.getD g .any) want (Gy P dr (nx + i) d op (awOps P dr m K r (i + 1)) g fr h nx pn) (Gn d (awOps P dr m K r (i + 1)) g fr h nx pn) := by
  simp only [awOps, guardA, gdA, Gy, Gn]
  cases fr.getD g .any with
  | lit v => cases v <;> simp [flagOk, neOk, AS.put]
  | _ => rfl
theorem ops_flag {i : Nat} {d : Option Nat} {op : AOp} {fl : Bool} {ne : List Nat} {r : List AOper} : awOps P dr m K (⟨d, op, none, fl, ne⟩ :: r) i ⟨fr, h, nx, pn⟩ = (flagOk ⟨d, op, none, fl, ne⟩ ⟨fr, h, nx, pn⟩ ∧ opA P dr (nx + i) d op (awOps P dr m K r (i + 1)) ⟨fr, h, nx, pn⟩) := rfl
theorem gdA_tt {yes : Bool → Prop} {no : Option Bool → Prop} : gdA (.lit (.bool true)) true yes no = yes true := by simp [gdA]
theorem gdA_tf {yes : Bool → Prop} {no : Option Bool → Prop} : gdA (.lit (.bool true)) false yes no = no (some true) := by simp [gdA]
theorem gdA_ft {yes : Bool → Prop} {no : Option Bool → Prop} : gdA (.lit (.bool false)) true yes no = no (some false) := by simp [gdA]
theorem gdA_ff {yes : Bool → Prop} {no : Option Bool → Prop} : gdA (.lit (.bool false)) false yes no = yes false := by simp [gdA]
theorem gdA_un {want : Bool} {a : Array Value} {yes : Bool → Prop} {no : Option Bool → Prop} : gdA (.lit (.tuple a)) want yes no = no none := rfl
theorem gdA_t {b : Bool} {yes : Bool → Prop} {no : Option Bool → Prop} : gdA (.lit (.bool b)) true yes no = ((b = true → yes true) ∧ (b = false → no (some false))) := by simp [gdA]
theorem gdA_f {b : Bool} {yes : Bool → Prop} {no : Option Bool → Prop} : gdA (.lit (.bool b)) false yes no = ((b = false → yes false) ∧ (b = true → no (some true))) := by simp [gdA]

theorem put_mk {i : Nat} {t : T} : (AS.mk fr h nx pn).put (some i) t = ⟨fr.set i t, h, nx, pn⟩ := rfl
theorem put_none {t : T} : (AS.mk fr h nx pn).put none t = ⟨fr, h, nx, pn⟩ := rfl
theorem ev_t {i : Nat} : (AS.mk fr h nx pn).ev (.t i) = fr.getD i T.un := rfl
theorem ev_c {v : T} : s.ev (.c v) = v := rfl
theorem getD_0 {t u : T} {l : List T} : (t :: l).getD 0 u = t := rfl
theorem getD_s {t u : T} {l : List T} {i : Nat} : (t :: l).getD (i + 1) u = l.getD i u := rfl
theorem set_0 {t u : T} {l : List T} : (t :: l).set 0 u = u :: l := rfl
theorem set_s {t u : T} {l : List T} {i : Nat} : (t :: l).set (i + 1) u = t :: l.set i u := rfl

/-! ### quiet operations -/
theorem e_mv {x : X} : opA P dr n d (.mv x) K s = K (s.put d (s.ev x)) := by simp only [opA, qc, qt, true_and]

def binC (op : BinOp) (a b : T) : Prop := match a, b with | .lit u, .lit v => (binV op u v).isSome = true | _, _ => False
def binT (op : BinOp) (a b : T) : T := match a, b with | .lit u, .lit v => (match binV op u v with | some r => .lit r | none => .any) | _, _ => .any
theorem e_bin {op : BinOp} {x y : X} : opA P dr n d (.bin op x y) K s = (binC op (s.ev x) (s.ev y) ∧ K (s.put d (binT op (s.ev x) (s.ev y)))) := rfl
section
variable {a b : Int} {x y : ByteArray}
theorem binC_add : binC .add (.int a) (.int b) = True := by simp [binC, binV, kEq]
theorem binC_sub : binC .sub (.int a) (.int b) = True := by simp [binC, binV, kEq]
theorem binC_mul : binC .mul (.int a) (.int b) = True := by simp [binC, binV, kEq]
theorem binC_eql : binC .eql (.int a) (.int b) = True := by simp [binC, binV, kEq]
theorem binC_neq : binC .neq (.int a) (.int b) = True := by simp [binC, binV, kEq]
theorem binC_lss : binC .lss (.int a) (.int b) = True := by simp [binC, binV, kEq]
theorem binC_leq : binC .leq (.int a) (.int b) = True := by simp [binC, binV, kEq]
theorem binC_gtr : binC .gtr (.int a) (.int b) = True := by simp [binC, binV, kEq]
theorem binC_geq : binC .geq (.int a) (.int b) = True := by simp [binC, binV, kEq]
theorem binT_add : binT .add (.int a) (.int b) = .int (IntKind.i64.wrap (a + b)) := rfl
theorem binT_sub : binT .sub (.int a) (.int b) = .int (IntKind.i64.wrap (a - b)) := rfl
theorem binT_mul : binT .mul (.int a) (.int b) = .int (IntKind.i64.wrap (a * b)) := rfl
theorem binT_eql : binT .eql (.int a) (.int b) = .bool (a == b) := rfl
theorem binT_neq : binT .neq (.int a) (.int b) = .bool (a != b) := rfl
theorem binT_lss : binT .lss (.int a) (.int b) = .bool (decide (a < b)) := rfl
theorem binT_leq : binT .leq (.int a) (.int b) = .bool (decide (a ≤ b)) := rfl
theorem binT_gtr : binT .gtr (.int a) (.int b) = .bool (decide (b < a)) := rfl
theorem binT_geq : binT .geq (.int a) (.int b) = .bool (decide (b ≤ a)) := rfl
theorem binC_seql : binC .eql (.lit (.string x)) (.lit (.string y)) = True := by simp [binC, binV]
theorem binC_sneq : binC .neq (.lit (.string x)) (.lit (.string y)) = True := by simp [binC, binV]
theorem binT_seql : binT .eql (.lit (.string x)) (.lit (.string y)) = .bool (x.toList == y.toList) := rfl
theorem binT_sneq : binT .neq (.lit (.string x)) (.lit (.string y)) = .bool (!(x.toList == y.toList)) := rfl
/-- Bytes. -/
theorem binC_u8 {op : BinOp} : binC op (.lit (.int .u8 a)) (.lit (.int .u8 b)) = ((binV op (.int .u8 a) (.int .u8 b)).isSome = true) := rfl
end

def pickC (c : T) : Prop := isBool c = true
theorem e_pick {c x y : X} : opA P dr n d (.pick c x y) K s = (pickC (s.ev c) ∧ K (s.put d (pickT (s.ev c) (s.ev x) (s.ev y)))) := rfl
theorem pickC_b {b : Bool} : pickC (.lit (.bool b)) = True := by simp [pickC, isBool]
theorem pickT_b {c a b : Bool} : pickT (.lit (.bool c)) (.lit (.bool a)) (.lit (.bool b)) = .lit (.bool (bif c then a else b)) := rfl
theorem pickT_t {x y : T} : pickT (.lit (.bool true)) x y = x := by
  unfold pickT; split
  · rename_i h; cases h; split <;> simp_all
  · simp_all
theorem pickT_f {x y : T} : pickT (.lit (.bool false)) x y = y := by
  unfold pickT; split
  · rename_i h; cases h; split <;> simp_all
  · simp_all

def bbT (ne : Bool) (a b : T) : T := match a, b with | .lit (.bool a), .lit (.bool b) => .lit (.bool (bif ne then !(a == b) else a == b)) | _, _ => .any
theorem e_bb {ne : Bool} {x y : X} : opA P dr n d (.bb ne x y) K s = ((isBool (s.ev x) && isBool (s.ev y)) = true ∧ K (s.put d (bbT ne (s.ev x) (s.ev y)))) := rfl
theorem isBool_b {b : Bool} : isBool (.lit (.bool b)) = true := rfl
theorem bbT_eq {a b : Bool} : bbT false (.lit (.bool a)) (.lit (.bool b)) = .bool (a == b) := rfl
theorem bbT_ne {a b : Bool} : bbT true (.lit (.bool a)) (.lit (.bool b)) = .bool (!(a == b)) := rfl
def notT (a : T) : T := match a with | .lit (.bool b) => .lit (.bool !b) | _ => .any
theorem e_not {x : X} : opA P dr n d (.not x) K s = (isBool (s.ev x) = true ∧ K (s.put d (notT (s.ev x)))) := rfl
theorem notT_b {b : Bool} : notT (.lit (.bool b)) = .bool !b := rfl

def convC (a : T) : Prop := match a with | .lit (.int _ _) => True | _ => False
def convT (k : IntKind) (a : T) : T := match a with | .lit (.int _ n) => .lit (.int k (k.wrap n)) | _ => .any
theorem e_conv {k : IntKind} {x : X} : opA P dr n d (.conv k x) K s = (convC (s.ev x) ∧ K (s.put d (convT k (s.ev x)))) := rfl
theorem convC_i {k : IntKind} {a : Int} : convC (.lit (.int k a)) = True := rfl
theorem convT_i {k k' : IntKind} {a : Int} : convT k (.lit (.int k' a)) = .lit (.int k (k.wrap a)) := rfl

def faC (h : Hp) (off k : Nat) (x : T) : Prop := match x with | .ptr i _ _ => (h i).isSome = true | .ref kt _ => (!(kt == 0) && partOk (szK kt) off k) = true | _ => False
def faT (off k : Nat) (x : T) : T := match x with | .ptr i j o => .ptr i j (o + off) | .ref _ t => .ref k (t.part off k) | _ => .any
theorem e_fa {off k : Nat} {x : X} : opA P dr n d (.fa off k x) K s = (faC s.hp off k (s.ev x) ∧ K (s.put d (faT off k (s.ev x)))) := rfl
theorem faC_p {off k i j o : Nat} : faC h off k (.ptr i j o) = ((h i).isSome = true) := rfl
theorem faC_r {off k kt : Nat} {t : T} : faC h off k (.ref kt t) = ((!(kt == 0) && partOk (szK kt) off k) = true) := rfl
theorem faT_p {off k i j o : Nat} : faT off k (.ptr i j o) = .ptr i j (o + off) := rfl
theorem faT_r {off k kt : Nat} {t : T} : faT off k (.ref kt t) = .ref k (t.part off k) := rfl

def fvC (off k : Nat) (x : T) : Prop := (!(x.kd == 0) && partOk (szK x.kd) off k) = true
theorem e_fv {off k : Nat} {x : X} : opA P dr n d (.fv off k x) K s = (fvC off k (s.ev x) ∧ K (s.put d ((s.ev x).part off k))) := rfl
theorem part_agg0 {off : Nat} {l : List T} : (T.agg l).part off 0 = l.getD off .any := rfl
theorem part_aggs {off m : Nat} {l : List T} : (T.agg l).part off (m + 1) = .agg ((l.drop off).take m) := rfl
theorem kd_agg {l : List T} : (T.agg l).kd = l.length + 1 := rfl

theorem ia_fix {α : Type} [Inhabited α] {f : α → T} {l : List α} {i : Nat} (hi : i < l.length) : (l.map f).getD i .any = f (l.getD i default) := by
  simp [List.getD_eq_getElem?_getD, hi]

/-- What goes on with a value in a slot. -/
def Kp (K : AS → Prop) (s : AS) (d : Option Nat) (t : T) : Prop := K (s.put d t)
theorem Kp_eq {t : T} : Kp K ⟨fr, h, nx, pn⟩ d t = K (AS.put ⟨fr, h, nx, pn⟩ d t) := rfl

def iaO (k o : Nat) (ob : Option Ob) (a : Int) (C : T → Prop) : Prop := match ob with | some ob => (ob.k = k ∧ inR a ob.l.length) ∧ C (.ptr o a.toNat 0) | none => False
def iaV (k o lo hi : Nat) (ob : Option Ob) (a : Int) (C : T → Prop) : Prop := match ob with | some ob => (ob.k = k ∧ inR a (hi - lo)) ∧ C (.ptr o (lo + a.toNat) 0) | none => False
def iaA (h : Hp) (k : Nat) (x i : T) (C : T → Prop) : Prop :=
  match x, i with
  | .sl k' _ l, .lit (.int _ n) => (k' = k ∧ inR n l.length) ∧ C (.ref k (l.getD n.toNat .any))
  | .own o, .lit (.int _ n) => iaO k o (h o) n C
  | .ovw o lo hi, .lit (.int _ n) => iaV k o lo hi (h o) n C
  | _, _ => False
theorem e_ia {k : Nat} {x i : X} : opA P dr n d (.ia k x i) K s = iaA s.hp k (s.ev x) (s.ev i) (Kp K s d) := by
  simp only [opA, qc, qt, iaA, iaO, iaV, Kp]
  generalize s.ev x = u; generalize s.ev i = v
  cases u with
  | sl k' fl l => cases v with
    | lit v => cases v <;> simp
    | _ => simp
  | own o => cases v with
    | lit v => cases v with
      | int ki a => simp only; cases s.hp o <;> simp
      | _ => simp
    | _ => simp
  | ovw o lo hi => cases v with
    | lit v => cases v with
      | int ki a => simp only; cases s.hp o <;> simp
      | _ => simp
    | _ => simp
  | _ => simp
theorem iaA_ovw {k o lo hi : Nat} {ki : IntKind} {a : Int} {C : T → Prop} : iaA h k (.ovw o lo hi) (.lit (.int ki a)) C = iaV k o lo hi (h o) a C := rfl
theorem iaV_some {k k' ty o lo hi : Nat} {a : Int} {l : List T} {C : T → Prop} : iaV k o lo hi (some ⟨ty, k', l⟩) a C = (k' = k ∧ inR a (hi - lo) ∧ C (.ptr o (lo + a.toNat) 0)) := by simp [iaV, and_assoc]
theorem iaA_sl {k k' : Nat} {fl : Bool} {ki : IntKind} {a : Int} {C : T → Prop} {α : Type} [Inhabited α] {f : α → T} {l : List α} :
    iaA h k (.sl k' fl (l.map f)) (.lit (.int ki a)) C = (k' = k ∧ inR a l.length ∧ C (.ref k (f (l.getD a.toNat default)))) := by
  simp only [iaA, List.length_map, and_assoc, eq_iff_iff]
  refine and_congr_right fun _ => and_congr_right fun h2 => ?_
  rw [ia_fix (by have := h2.1; have := h2.2; omega)]
theorem iaA_own {k o : Nat} {ki : IntKind} {a : Int} {C : T → Prop} : iaA h k (.own o) (.lit (.int ki a)) C = iaO k o (h o) a C := rfl
theorem iaO_some {k k' ty o : Nat} {a : Int} {l : List T} {C : T → Prop} : iaO k o (some ⟨ty, k', l⟩) a C = (k' = k ∧ inR a l.length ∧ C (.ptr o a.toNat 0)) := by simp [iaO, and_assoc]

def chA (x i : T) (C : T → Prop) : Prop :=
  match x, i with
  | .lit (.string b), .lit (.int _ n) => inR n b.size ∧ C (.lit (.int .u8 (b.data.getD n.toNat 0).toNat))
  | _, _ => False
theorem e_ch {x i : X} : opA P dr n d (.ch x i) K s = chA (s.ev x) (s.ev i) (Kp K s d) := by
  simp only [opA, qc, qt, chA, Kp]
  generalize s.ev x = u; generalize s.ev i = v
  cases u with
  | lit u => cases u with
    | string b => cases v with
      | lit v => cases v <;> simp
      | _ => simp
    | _ => simp
  | _ => simp
theorem chA_s {b : ByteArray} {ki : IntKind} {a : Int} {C : T → Prop} : chA (.lit (.string b)) (.lit (.int ki a)) C = (inR a b.size ∧ C (.lit (.int .u8 (b.data.getD a.toNat 0).toNat))) := rfl

def ldO (k j off : Nat) (ob : Option Ob) (C : T → Prop) : Prop :=
  match ob with
  | some ob => (j < ob.l.length ∧ ((off == 0 && ob.k == k) || (!(ob.k == 0) && partOk (szK ob.k) off k)) = true) ∧ C (bif (off == 0 && ob.k == k) then ob.l.getD j .any else (ob.l.getD j .any).part off k)
  | none => False
def ldA (h : Hp) (k : Nat) (x : T) (C : T → Prop) : Prop :=
  match x with
  | .ref k' t => (k' == k && Nat.blt 0 (szK k)) = true ∧ C t
  | .ptr i j off => ldO k j off (h i) C
  | _ => False
theorem e_ld {k : Nat} {x : X} : opA P dr n d (.ld k x) K s = ldA s.hp k (s.ev x) (Kp K s d) := by
  simp only [opA, qc, qt, ldA, ldO, Kp]
  generalize s.ev x = u
  cases u with
  | ptr i j off => simp only; cases s.hp i <;> simp
  | _ => simp
theorem ldA_ref {k k' : Nat} {t : T} {C : T → Prop} : ldA h k (.ref k' t) C = ((k' == k && Nat.blt 0 (szK k)) = true ∧ C t) := rfl
theorem ldA_ptr {k i j off : Nat} {C : T → Prop} : ldA h k (.ptr i j off) C = ldO k j off (h i) C := rfl
theorem ldO_row {k ty j : Nat} {α : Type} [Inhabited α] {f : α → T} {l : List α} {C : T → Prop} : ldO k j 0 (some ⟨ty, k, l.map f⟩) C = (j < l.length ∧ C (f (l.getD j default))) := by
  simp only [ldO, BEq.rfl, Bool.and_self, Bool.true_or, and_true, List.length_map, cond_true, eq_iff_iff]
  exact and_congr_right fun hj => by rw [ia_fix hj]
theorem ldO_all {k ty : Nat} {t : T} {C : T → Prop} : ldO k 0 0 (some ⟨ty, k, [t]⟩) C = C t := by simp [ldO]
theorem ldO_one {k k' ty off : Nat} {t : T} {C : T → Prop} : ldO k 0 off (some ⟨ty, k', [t]⟩) C = (((off == 0 && k' == k) || (!(k' == 0) && partOk (szK k') off k)) = true ∧ C (bif (off == 0 && k' == k) then t else t.part off k)) := by
  simp [ldO]
theorem ldO_part {k k' ty j off : Nat} {α : Type} [Inhabited α] {f : α → T} {l : List α} {C : T → Prop} : ldO k j off (some ⟨ty, k', l.map f⟩) C =
    (j < l.length ∧ ((off == 0 && k' == k) || (!(k' == 0) && partOk (szK k') off k)) = true ∧ C (bif (off == 0 && k' == k) then f (l.getD j default) else (f (l.getD j default)).part off k)) := by
  simp only [ldO, List.length_map, eq_iff_iff, and_assoc]
  exact and_congr_right fun hj => by rw [ia_fix hj]

def ncC (h : Hp) (x : T) : Prop := match x with | .ptr i _ _ => (h i).isSome = true | .ref _ _ => True | .fn _ _ => True | _ => False
theorem e_nc {x : X} : opA P dr n d (.nc x) K s = (ncC s.hp (s.ev x) ∧ K (s.put d (s.ev x))) := rfl
theorem ncC_p {i j o : Nat} : ncC h (.ptr i j o) = ((h i).isSome = true) := rfl
theorem ncC_r {k : Nat} {t : T} : ncC h (.ref k t) = True := rfl
theorem ncC_f {f : Nat} {c : List T} : ncC h (.fn f c) = True := rfl

def lenO (ob : Option Ob) (C : T → Prop) : Prop := match ob with | some ob => (!(ob.k == 1000000007)) = true ∧ C (.lit (.int .i64 ob.l.length)) | none => False
def lenA (h : Hp) (str : Bool) (x : T) (C : T → Prop) : Prop :=
  match x with
  | .sl _ _ l => str = false ∧ C (.lit (.int .i64 l.length))
  | .own o => str = false ∧ lenO (h o) C
  | .ovw o lo hi => str = false ∧ (h o).isSome = true ∧ C (.lit (.int .i64 ((hi - lo : Nat) : Int)))
  | .lit (.string b) => str = true ∧ C (.lit (.int .i64 b.size))
  | _ => False
theorem e_len {b : Bool} {x : X} : opA P dr n d (.len b x) K s = lenA s.hp b (s.ev x) (Kp K s d) := by
  simp only [opA, qc, qt, lenA, lenO, Kp]
  generalize s.ev x = u
  cases u with
  | lit v => cases v <;> simp
  | own o => simp only; cases s.hp o <;> simp [and_assoc]
  | ovw o lo hi => simp [and_assoc]
  | _ => simp
theorem lenA_ovw {o lo hi : Nat} {C : T → Prop} : lenA h false (.ovw o lo hi) C = ((h o).isSome = true ∧ C (.int ((hi - lo : Nat) : Int))) := by simp [lenA]
theorem lenA_sl {k : Nat} {fl : Bool} {l : List T} {C : T → Prop} : lenA h false (.sl k fl l) C = C (.int l.length) := by simp [lenA]
theorem lenA_own {o : Nat} {C : T → Prop} : lenA h false (.own o) C = lenO (h o) C := by simp [lenA]
theorem lenA_str {b : ByteArray} {C : T → Prop} : lenA h true (.lit (.string b)) C = C (.int b.size) := by simp [lenA]
theorem lenO_some {ty k : Nat} {l : List T} {C : T → Prop} : lenO (some ⟨ty, k, l⟩) C = ((!(k == 1000000007)) = true ∧ C (.int l.length)) := rfl

def mxA (lo : Bool) (x y : T) (C : T → Prop) : Prop :=
  match x, y with
  | .lit (.int k a), .lit (.int _ b) => C (.lit (.int k (bif lo then (if b < a then b else a) else (if a < b then b else a))))
  | _, _ => False
theorem e_mx {x y : X} : opA P dr n d (.mx x y) K s = mxA false (s.ev x) (s.ev y) (Kp K s d) := by
  simp only [opA, qc, qt, mxA, Kp]
  generalize s.ev x = u; generalize s.ev y = v
  cases u with
  | lit u => cases u with
    | int k a => cases v with
      | lit v => cases v <;> simp
      | _ => simp
    | _ => simp
  | _ => simp
theorem e_mn {x y : X} : opA P dr n d (.mn x y) K s = mxA true (s.ev x) (s.ev y) (Kp K s d) := by
  simp only [opA, qc, qt, mxA, Kp]
  generalize s.ev x = u; generalize s.ev y = v
  cases u with
  | lit u => cases u with
    | int k a => cases v with
      | lit v => cases v <;> simp
      | _ => simp
    | _ => simp
  | _ => simp
theorem mxA_f {k k' : IntKind} {a b : Int} {C : T → Prop} : mxA false (.lit (.int k a)) (.lit (.int k' b)) C = C (.lit (.int k (max a b))) := by
  simp only [mxA, cond_false]; congr 3; split <;> omega
theorem mxA_t {k k' : IntKind} {a b : Int} {C : T → Prop} : mxA true (.lit (.int k a)) (.lit (.int k' b)) C = C (.lit (.int k (min a b))) := by
  simp only [mxA, cond_true]; congr 3; split <;> omega

theorem e_mk {z : List T} {ps : List (Nat × Nat × X)} : opA P dr n d (.mk z ps) K s = ((fillOk z (ps.map fun p => (p.1, p.2.1, s.ev p.2.2)) && stAll s.hp (ps.map fun p => s.ev p.2.2)) = true ∧ K (s.put d (.agg (fillT z (ps.map fun p => (p.1, p.2.1, s.ev p.2.2)))))) := rfl
theorem e_ms {ty k m : Nat} {z : T} {ps : List (Nat × X)} : opA P dr n d (.ms ty k z m ps) K s = (((z.kd == k) && z.free && setOk k m (ps.map fun p => (p.1, s.ev p.2)) && stAll s.hp (ps.map fun p => s.ev p.2) && T.freeL (ps.map fun p => s.ev p.2) && Nat.ble (m * szK k) 16777216 && Nat.blt 0 (szK k)) = true ∧ K (s.put d (.sl k true (setAll (List.replicate m z) (ps.map fun p => (p.1, s.ev p.2)))))) := rfl

def slA (k : Nat) (x : T) (lo hi mx : Option T) (C : T → Prop) : Prop :=
  match x with
  | .sl k' f l =>
    match lo, hi, mx with
    | none, none, none => (k' = k ∨ l = []) ∧ C (.sl k f l)
    | some (.lit (.int _ a)), none, none => (k' = k ∨ l = []) ∧ 0 ≤ a ∧ a ≤ l.length ∧ C (.sl k f (l.drop a.toNat))
    | none, some (.lit (.int _ b)), none => (k' = k ∨ l = []) ∧ 0 ≤ b ∧ b ≤ l.length ∧ C (.sl k (f && decide (b = l.length)) (l.take b.toNat))
    | some (.lit (.int _ a)), some (.lit (.int _ b)), none => (k' = k ∨ l = []) ∧ 0 ≤ a ∧ a ≤ b ∧ b ≤ l.length ∧ C (.sl k false ((l.take b.toNat).drop a.toNat))
    | none, some (.lit (.int _ b)), some (.lit (.int _ m)) => (k' = k ∨ l = []) ∧ 0 ≤ b ∧ b ≤ m ∧ m ≤ l.length ∧ C (.sl k (decide (b = m)) (l.take b.toNat))
    | _, _, _ => False
  | _ => False
theorem slA_eq {k : Nat} {x : T} {lo hi mx : Option T} {K : AS → Prop} : (slC k x lo hi mx ∧ K (s.put d (slT k x lo hi mx))) = slA k x lo hi mx (Kp K s d) := by
  simp only [slA, slC, slT, Kp]
  cases x with
  | sl k' fl l =>
    simp only
    split
    · rename_i heq; cases heq; simp
    · rename_i heq; cases heq; simp [and_assoc]
    · rename_i heq; cases heq; simp [and_assoc]
    · rename_i heq; cases heq; simp [and_assoc]
    · rename_i heq; cases heq; simp [and_assoc]
    · rename_i n1 n2 n3 n4 n5
      split
      · exact (n1 _ _ _ rfl rfl rfl rfl).elim
      · exact (n2 _ _ _ _ _ rfl rfl rfl rfl).elim
      · exact (n3 _ _ _ _ _ rfl rfl rfl rfl).elim
      · exact (n4 _ _ _ _ _ _ _ rfl rfl rfl rfl).elim
      · exact (n5 _ _ _ _ _ _ _ rfl rfl rfl rfl).elim
      · simp
  | _ => simp
theorem e_sl {k : Nat} {x : X} {lo hi mx : Option X} : opA P dr n d (.sl k x lo hi mx) K s = slA k (s.ev x) (lo.map s.ev) (hi.map s.ev) (mx.map s.ev) (Kp K s d) := by
  simp only [opA, qc, qt]
  exact slA_eq
def viewA (k i : Nat) (ob : Option Ob) (lo hi mx : Option T) (C : T → Prop) : Prop := match ob with | some ob => viewC k ob lo hi mx ∧ C (viewT i ob lo hi mx) | none => False
def slxA (h : Hp) (k : Nat) (x : T) (lo hi mx : Option T) (C : T → Prop) : Prop :=
  match x with
  | .own i => viewA k i (h i) lo hi mx C
  | t => slA k t lo hi mx C
theorem e_slx {k : Nat} {x : X} {lo hi mx : Option X} : opA P dr n d (.slx k x lo hi mx) K s = slxA s.hp k (s.ev x) (lo.map s.ev) (hi.map s.ev) (mx.map s.ev) (Kp K s d) := by
  simp only [opA, qc, qt, slxA, viewA, ← slA_eq (K := K)]
  generalize s.ev x = u; generalize lo.map s.ev = a; generalize hi.map s.ev = b; generalize mx.map s.ev = c
  cases u with
  | own i => simp only; cases s.hp i <;> simp [Kp]
  | _ => rfl
theorem slxA_own {k i : Nat} {lo hi mx : Option T} {C : T → Prop} : slxA h k (.own i) lo hi mx C = viewA k i (h i) lo hi mx C := rfl
theorem slxA_sl {k k' : Nat} {f : Bool} {l : List T} {lo hi mx : Option T} {C : T → Prop} : slxA h k (.sl k' f l) lo hi mx C = slA k (.sl k' f l) lo hi mx C := rfl
theorem viewA_lo {k i ty : Nat} {l : List T} {ka : IntKind} {a : Int} {C : T → Prop} : viewA k i (some ⟨ty, k, l⟩) (some (.lit (.int ka a))) none none C = (0 ≤ a ∧ a ≤ l.length ∧ C (.ovw i a.toNat l.length)) := by simp [viewA, viewC, viewT, and_assoc]
theorem viewA_hi {k i ty : Nat} {l : List T} {ka : IntKind} {a : Int} {C : T → Prop} : viewA k i (some ⟨ty, k, l⟩) none (some (.lit (.int ka a))) none C = (0 ≤ a ∧ a ≤ l.length ∧ C (.ovw i 0 a.toNat)) := by simp [viewA, viewC, viewT, and_assoc]
theorem viewA_lh {k i ty : Nat} {l : List T} {ka kb : IntKind} {a b : Int} {C : T → Prop} : viewA k i (some ⟨ty, k, l⟩) (some (.lit (.int ka a))) (some (.lit (.int kb b))) none C = (0 ≤ a ∧ a ≤ b ∧ b ≤ l.length ∧ C (.ovw i a.toNat b.toNat)) := by simp [viewA, viewC, viewT, and_assoc]
def capA (x : T) (C : T → Prop) : Prop := match x with | .sl _ true l => C (.lit (.int .i64 l.length)) | _ => False
theorem e_capx {x : X} : opA P dr n d (.capx x) K s = capA (s.ev x) (Kp K s d) := by
  simp only [opA, qc, qt, capA, Kp]
  cases s.ev x with
  | sl k f l => cases f <;> simp
  | _ => simp
theorem capA_sl {k : Nat} {l : List T} {C : T → Prop} : capA (.sl k true l) C = C (.int l.length) := rfl
def clrO (h : Hp) (i lo hi k : Nat) (z : T) (ob : Option Ob) (C : Hp → Prop) : Prop :=
  match ob with
  | some ob => (ob.k == k && z.kd == k && z.stOk h && z.free) = true ∧ hi ≤ ob.l.length ∧ C (upd h i (some ⟨ob.ty, ob.k, ob.l.take lo ++ List.replicate (hi - lo) z ++ ob.l.drop hi⟩))
  | none => False
def clrA (h : Hp) (k : Nat) (z x : T) (C : Hp → Prop) : Prop := match x with | .ovw i lo hi => clrO h i lo hi k z (h i) C | _ => False
def Kd (K : AS → Prop) (fr : List T) (nx pn : Nat) (d : Option Nat) (h : Hp) : Prop := K (AS.put ⟨fr, h, nx, pn⟩ d T.un)
theorem Kd_eq : Kd K fr nx pn d h = K (AS.put ⟨fr, h, nx, pn⟩ d T.un) := rfl
theorem e_clr {k : Nat} {z : T} {x : X} : opA P dr n d (.clr k z x) K ⟨fr, h, nx, pn⟩ = clrA h k z (AS.ev ⟨fr, h, nx, pn⟩ x) (Kd K fr nx pn d) := by
  simp only [opA, clrA, clrO, Kd]
  cases AS.ev ⟨fr, h, nx, pn⟩ x with
  | ovw i lo hi => simp only; cases h i <;> (cases d <;> rfl)
  | _ => rfl
theorem clrA_ovw {k i lo hi : Nat} {z : T} {C : Hp → Prop} : clrA h k z (.ovw i lo hi) C = clrO h i lo hi k z (h i) C := rfl
theorem clrO_some {k k' ty i lo hi : Nat} {z : T} {l : List T} {C : Hp → Prop} : clrO h i lo hi k z (some ⟨ty, k', l⟩) C = ((k' == k && z.kd == k && z.stOk h && z.free) = true ∧ hi ≤ l.length ∧ C (upd h i (some ⟨ty, k', l.take lo ++ List.replicate (hi - lo) z ++ l.drop hi⟩))) := rfl
theorem e_bot : opA P dr n d .bot K s = False := rfl
theorem slA_no {k k' : Nat} {f : Bool} {l : List T} {C : T → Prop} : slA k (.sl k' f l) none none none C = ((k' = k ∨ l = []) ∧ C (.sl k f l)) := rfl
theorem slA_lo {k k' : Nat} {f : Bool} {l : List T} {ka : IntKind} {a : Int} {C : T → Prop} : slA k (.sl k' f l) (some (.lit (.int ka a))) none none C = ((k' = k ∨ l = []) ∧ 0 ≤ a ∧ a ≤ l.length ∧ C (.sl k f (l.drop a.toNat))) := rfl
theorem slA_hi {k k' : Nat} {f : Bool} {l : List T} {ka : IntKind} {a : Int} {C : T → Prop} : slA k (.sl k' f l) none (some (.lit (.int ka a))) none C = ((k' = k ∨ l = []) ∧ 0 ≤ a ∧ a ≤ l.length ∧ C (.sl k (f && decide (a = l.length)) (l.take a.toNat))) := rfl
theorem slA_lh {k k' : Nat} {f : Bool} {l : List T} {ka kb : IntKind} {a b : Int} {C : T → Prop} : slA k (.sl k' f l) (some (.lit (.int ka a))) (some (.lit (.int kb b))) none C = ((k' = k ∨ l = []) ∧ 0 ≤ a ∧ a ≤ b ∧ b ≤ l.length ∧ C (.sl k false ((l.take b.toNat).drop a.toNat))) := rfl
theorem slA_hm {k k' : Nat} {f : Bool} {l : List T} {ka kb : IntKind} {a b : Int} {C : T → Prop} : slA k (.sl k' f l) none (some (.lit (.int ka a))) (some (.lit (.int kb b))) C = ((k' = k ∨ l = []) ∧ 0 ≤ a ∧ a ≤ b ∧ b ≤ l.length ∧ C (.sl k (decide (a = b)) (l.take a.toNat))) := rfl

def exC (x : T) (i : Nat) : Prop := match x with | .tup l => Nat.blt i l.length = true | _ => False
def exT (x : T) (i : Nat) : T := match x with | .tup l => l.getD i .any | _ => .any
theorem e_ex {x : X} {i : Nat} : opA P dr n d (.ex x i) K s = (exC (s.ev x) i ∧ K (s.put d (exT (s.ev x) i))) := rfl
theorem exC_t {l : List T} {i : Nat} : exC (.tup l) i = (Nat.blt i l.length = true) := rfl
theorem exT_t {l : List T} {i : Nat} : exT (.tup l) i = l.getD i .any := rfl
theorem e_mf {f : FuncId} {cap : List X} : opA P dr n d (.mf f cap) K s = ((oneAll s.hp (cap.map s.ev) && Nat.blt f 4096) = true ∧ K (s.put d (.fn f (cap.map s.ev)))) := rfl

def ssA (x : T) (lo hi : Option T) (C : T → Prop) : Prop :=
  match x with
  | .lit (.string b) =>
    match lo, hi with
    | none, none => C (.lit (.string (b.extract 0 b.size)))
    | some (.lit (.int _ i)), none => 0 ≤ i ∧ i ≤ b.size ∧ C (.lit (.string (b.extract i.toNat b.size)))
    | none, some (.lit (.int _ j)) => 0 ≤ j ∧ j ≤ b.size ∧ C (.lit (.string (b.extract 0 j.toNat)))
    | some (.lit (.int _ i)), some (.lit (.int _ j)) => 0 ≤ i ∧ i ≤ j ∧ j ≤ b.size ∧ C (.lit (.string (b.extract i.toNat j.toNat)))
    | _, _ => False
  | _ => False
theorem e_ss {x : X} {lo hi : Option X} : opA P dr n d (.ss x lo hi) K s = ssA (s.ev x) (lo.map s.ev) (hi.map s.ev) (Kp K s d) := by
  simp only [opA, qc, qt, ssA, Kp]
  generalize s.ev x = u; generalize lo.map s.ev = a; generalize hi.map s.ev = b
  cases u with
  | lit v => cases v with
    | string bs =>
      simp only
      split
      · rename_i heq; cases heq; simp
      · rename_i heq; cases heq; simp [and_assoc]
      · rename_i heq; cases heq; simp [and_assoc]
      · rename_i heq; cases heq; simp [and_assoc]
      · rename_i n1 n2 n3 n4
        split
        · exact (n1 _ rfl rfl rfl).elim
        · exact (n2 _ _ _ rfl rfl rfl).elim
        · exact (n3 _ _ _ rfl rfl rfl).elim
        · exact (n4 _ _ _ _ _ rfl rfl rfl).elim
        · simp
    | _ => simp
  | _ => simp
theorem ssA_lo {b : ByteArray} {ka : IntKind} {a : Int} {C : T → Prop} : ssA (.lit (.string b)) (some (.lit (.int ka a))) none C = (0 ≤ a ∧ a ≤ b.size ∧ C (.lit (.string (b.extract a.toNat b.size)))) := rfl
theorem ssA_hi {b : ByteArray} {ka : IntKind} {a : Int} {C : T → Prop} : ssA (.lit (.string b)) none (some (.lit (.int ka a))) C = (0 ≤ a ∧ a ≤ b.size ∧ C (.lit (.string (b.extract 0 a.toNat)))) := rfl
theorem ssA_lh {b : ByteArray} {ka kb : IntKind} {i j : Int} {C : T → Prop} : ssA (.lit (.string b)) (some (.lit (.int ka i))) (some (.lit (.int kb j))) C = (0 ≤ i ∧ i ≤ j ∧ j ≤ b.size ∧ C (.lit (.string (b.extract i.toNat j.toNat)))) := rfl

/-! ### objects -/
theorem e_box {ty k : Nat} {x : X} : opA P dr n d (.box ty k x) K ⟨fr, h, nx, pn⟩ = (((AS.ev ⟨fr, h, nx, pn⟩ x).kd == k && (AS.ev ⟨fr, h, nx, pn⟩ x).stOk h && kPos k) = true ∧
    K (AS.put ⟨fr, upd h n (some ⟨ty, k, [AS.ev ⟨fr, h, nx, pn⟩ x]⟩), nx, pn⟩ d (.ptr n 0 0))) := by cases d <;> rfl
theorem e_al {ty k : Nat} {z : T} : opA P dr n d (.al ty k z) K ⟨fr, h, nx, pn⟩ = ((z.kd == k && z.stOk h && z.free && kPos k) = true ∧ K (AS.put ⟨fr, upd h n (some ⟨ty, k, [z]⟩), nx, pn⟩ d (.ptr n 0 0))) := by cases d <;> rfl

/-- What goes on with a new object in a slot. -/
def Kn (K : AS → Prop) (fr : List T) (nx pn : Nat) (d : Option Nat) (t : T) (h : Hp) : Prop := K (AS.put ⟨fr, h, nx, pn⟩ d t)
theorem Kn_eq {t : T} : Kn K fr nx pn d t h = K (AS.put ⟨fr, h, nx, pn⟩ d t) := rfl
def makeA (h : Hp) (n ty k bytes : Nat) (z x y : T) (C : T → Hp → Prop) : Prop :=
  match x, y with
  | .lit (.int _ a), .lit (.int _ b) => (z.kd == k && z.stOk h && z.free && kPos k) = true ∧ (0 ≤ a ∧ a ≤ b ∧ b * bytes ≤ 140737488355328 ∧ b ≤ 1152921504606846976) ∧ C (.own n) (upd h n (some ⟨ty, k, List.replicate a.toNat z⟩))
  | _, _ => False
theorem e_make {ty k bytes : Nat} {z : T} {x y : X} : opA P dr n d (.make ty k bytes z x y) K ⟨fr, h, nx, pn⟩ = makeA h n ty k bytes z (AS.ev ⟨fr, h, nx, pn⟩ x) (AS.ev ⟨fr, h, nx, pn⟩ y) (Kn K fr nx pn d) := by
  simp only [opA, makeA, Kn]
  generalize AS.ev ⟨fr, h, nx, pn⟩ x = u; generalize AS.ev ⟨fr, h, nx, pn⟩ y = v
  cases u with
  | lit u => cases u with
    | int k a => cases v with
      | lit v => cases v with
        | int k' b => cases d <;> rfl
        | _ => rfl
      | _ => rfl
    | _ => rfl
  | _ => rfl
theorem makeA_i {ty k bytes : Nat} {z : T} {ka kb : IntKind} {a b : Int} {C : T → Hp → Prop} : makeA h n ty k bytes z (.lit (.int ka a)) (.lit (.int kb b)) C =
    ((z.kd == k && z.stOk h && z.free && kPos k) = true ∧ (0 ≤ a ∧ a ≤ b ∧ b * bytes ≤ 140737488355328 ∧ b ≤ 1152921504606846976) ∧ C (.own n) (upd h n (some ⟨ty, k, List.replicate a.toNat z⟩))) := rfl

def stO (h : Hp) (i j off k : Nat) (v : T) (ob : Option Ob) (C : Hp → Prop) : Prop :=
  match ob with
  | some ob => (v.kd == k && v.stOk h) = true ∧ j < ob.l.length ∧ ((off == 0 && ob.k == k) || (!(ob.k == 0) && partOk (szK ob.k) off k)) = true ∧
      C (upd h i (some ⟨ob.ty, ob.k, ob.l.set j (bif (off == 0 && ob.k == k) then v else (ob.l.getD j .any).splice off v)⟩))
  | none => False
def stA (h : Hp) (k : Nat) (x v : T) (C : Hp → Prop) : Prop := match x with | .ptr i j off => stO h i j off k v (h i) C | _ => False
def Ks (K : AS → Prop) (fr : List T) (nx pn : Nat) (h : Hp) : Prop := K ⟨fr, h, nx, pn⟩
theorem Ks_eq : Ks K fr nx pn h = K ⟨fr, h, nx, pn⟩ := rfl
theorem e_st {k : Nat} {x v : X} : opA P dr n d (.st k x v) K ⟨fr, h, nx, pn⟩ = stA h k (AS.ev ⟨fr, h, nx, pn⟩ x) (AS.ev ⟨fr, h, nx, pn⟩ v) (Ks K fr nx pn) := by
  simp only [opA, stA, stO, Ks]
  cases AS.ev ⟨fr, h, nx, pn⟩ x with
  | ptr i j off => simp only; cases h i <;> rfl
  | _ => rfl
theorem stA_p {k i j off : Nat} {v : T} {C : Hp → Prop} : stA h k (.ptr i j off) v C = stO h i j off k v (h i) C := rfl
theorem stO_row {ty k i j : Nat} {v : T} {l : List T} {C : Hp → Prop} : stO h i j 0 k v (some ⟨ty, k, l⟩) C = ((v.kd == k && v.stOk h) = true ∧ j < l.length ∧ C (upd h i (some ⟨ty, k, l.set j v⟩))) := by simp [stO]
theorem stO_all {ty k i : Nat} {v t : T} {C : Hp → Prop} : stO h i 0 0 k v (some ⟨ty, k, [t]⟩) C = ((v.kd == k && v.stOk h) = true ∧ C (upd h i (some ⟨ty, k, [v]⟩))) := by simp [stO]
theorem stO_one {ty k k' i off : Nat} {v t : T} {C : Hp → Prop} : stO h i 0 off k v (some ⟨ty, k', [t]⟩) C = ((v.kd == k && v.stOk h) = true ∧ ((off == 0 && k' == k) || (!(k' == 0) && partOk (szK k') off k)) = true ∧
      C (upd h i (some ⟨ty, k', [bif (off == 0 && k' == k) then v else t.splice off v]⟩))) := by simp [stO]

def appO (h : Hp) (n i ty k bytes : Nat) (m : List T) (ob : Option Ob) (C : T → Hp → Prop) : Prop :=
  match ob with
  | some ob => (ob.k == k && ob.ty == ty) = true ∧ (ob.l.length + m.length) * bytes ≤ 140737488355328 ∧ ob.l.length + m.length ≤ 1152921504606846976 ∧
            C (.own n) (upd (upd h i none) n (some ⟨ty, k, ob.l ++ m⟩))
  | none => False
def appA (h : Hp) (n ty k bytes : Nat) (src : Src) (x : T) (C : T → Hp → Prop) : Prop :=
  match src with
  | .list m =>
    match x with
    | .sl k' true l => (k' = k ∨ l = []) ∧ (l = [] ∨ m ≠ []) ∧ (l.length + m.length) * bytes ≤ 140737488355328 ∧ l.length + m.length ≤ 1152921504606846976 ∧ C (.own n) (upd h n (some ⟨ty, k, l ++ m⟩))
    | .own i => appO h n i ty k bytes m (h i) C
    | _ => False
  | .no => False
theorem e_app {ty k bytes : Nat} {x y : X} : opA P dr n d (.app ty k bytes x y) K ⟨fr, h, nx, pn⟩ = appA h n ty k bytes (srcT h k (AS.ev ⟨fr, h, nx, pn⟩ y)) (AS.ev ⟨fr, h, nx, pn⟩ x) (Kn K fr nx pn d) := by
  simp only [opA, appA, appO, Kn]
  generalize AS.ev ⟨fr, h, nx, pn⟩ x = u; generalize srcT h k (AS.ev ⟨fr, h, nx, pn⟩ y) = v
  cases v with
  | no => rfl
  | list m =>
    cases u with
    | sl k' fl l => cases fl with
      | true => cases d <;> rfl
      | false => rfl
    | own i => simp only; cases h i <;> (cases d <;> rfl)
    | _ => rfl
theorem appA_sl {ty k k' bytes : Nat} {m l : List T} {C : T → Hp → Prop} : appA h n ty k bytes (.list m) (.sl k' true l) C = ((k' = k ∨ l = []) ∧ (l = [] ∨ m ≠ []) ∧ (l.length + m.length) * bytes ≤ 140737488355328 ∧ l.length + m.length ≤ 1152921504606846976 ∧ C (.own n) (upd h n (some ⟨ty, k, l ++ m⟩))) := rfl
theorem appA_own {ty k bytes i : Nat} {m : List T} {C : T → Hp → Prop} : appA h n ty k bytes (.list m) (.own i) C = appO h n i ty k bytes m (h i) C := rfl
theorem appO_some {ty k bytes i : Nat} {m l : List T} {C : T → Hp → Prop} : appO h n i ty k bytes m (some ⟨ty, k, l⟩) C = ((l.length + m.length) * bytes ≤ 140737488355328 ∧ l.length + m.length ≤ 1152921504606846976 ∧ C (.own n) (upd (upd h i none) n (some ⟨ty, k, l ++ m⟩))) := by
  simp [appO]
theorem srcT_nil {k k' : Nat} {fl : Bool} : srcT h k (.sl k' fl []) = .list [] := rfl
theorem srcT_sl {k : Nat} {fl : Bool} {l : List T} : srcT h k (.sl k fl l) = .list l := by cases l <;> simp [srcT]
def srcO (k : Nat) (ob : Option Ob) : Src := match ob with | some ob => bif ob.k == k then .list ob.l else .no | none => .no
theorem srcT_own {k o : Nat} : srcT h k (.own o) = srcO k (h o) := rfl
theorem srcO_some {ty k : Nat} {l : List T} : srcO k (some ⟨ty, k, l⟩) = .list l := by simp [srcO]

/-! ### nil, structs of numbers, maps -/
def nilO (C : T → Prop) : Option Ob → Prop
  | some ob => (ob.l = [] → C (.lit (.bool true))) ∧ C (.lit (.bool false)) ∧ ob.k ≠ mapK
  | none => False
def isnilA (h : Hp) (x : T) (C : T → Prop) : Prop :=
  match x with
  | .sl _ _ l => (l = [] → C (.lit (.bool true))) ∧ C (.lit (.bool false))
  | .own i => nilO C (h i)
  | _ => False
theorem e_isnil {x : X} : opA P dr n d (.isnil x) K s = isnilA s.hp (s.ev x) (Kp K s d) := by
  simp only [opA, isnilA, nilO, Kp]
  generalize s.ev x = u
  cases u with
  | own i => simp only; cases s.hp i <;> rfl
  | _ => rfl
theorem isnilA_sl {k : Nat} {fl : Bool} {l : List T} {C : T → Prop} : isnilA h (.sl k fl l) C = ((l = [] → C (.lit (.bool true))) ∧ C (.lit (.bool false))) := rfl
theorem isnilA_own {i : Nat} {C : T → Prop} : isnilA h (.own i) C = nilO C (h i) := rfl
theorem nilO_some {ty k : Nat} {l : List T} {C : T → Prop} : nilO C (some ⟨ty, k, l⟩) = ((l = [] → C (.lit (.bool true))) ∧ C (.lit (.bool false)) ∧ k ≠ mapK) := rfl
def eqsA (ne : Bool) (m : Nat) (x y : T) (C : T → Prop) : Prop :=
  match x, y with
  | .agg l, .agg l' => (allInt l && allInt l' && (l.length == m) && (l'.length == m)) = true ∧ C (.lit (.bool (bif ne then !(eqInts l l') else eqInts l l')))
  | _, _ => False
theorem e_eqs {ne : Bool} {m : Nat} {x y : X} : opA P dr n d (.eqs ne m x y) K s = eqsA ne m (s.ev x) (s.ev y) (Kp K s d) := by
  simp only [opA, qc, qt, eqsA, Kp]
  generalize s.ev x = u; generalize s.ev y = v
  cases u <;> cases v <;> simp
theorem eqsA_agg {ne : Bool} {m : Nat} {l l' : List T} {C : T → Prop} : eqsA ne m (.agg l) (.agg l') C = ((allInt l && allInt l' && (l.length == m) && (l'.length == m)) = true ∧ C (.lit (.bool (bif ne then !(eqInts l l') else eqInts l l')))) := rfl
theorem e_mmk {ty : Nat} : opA P dr n d (.mmk ty) K ⟨fr, h, nx, pn⟩ = K (AS.put ⟨fr, upd h n (some ⟨ty, mapK, []⟩), nx, pn⟩ d (.own n)) := by cases d <;> rfl
def mlkO (z : T) (m : Int) (C : T → Prop) : Option Ob → Prop
  | some ob => ob.k = mapK ∧ C (match mlook m ob.l with | some u => .tup [u, .lit (.bool true)] | none => .tup [z, .lit (.bool false)])
  | none => False
def mlkA (h : Hp) (z x i : T) (C : T → Prop) : Prop :=
  match x, i with
  | .own o, .lit (.int .i64 m) => mlkO z m C (h o)
  | _, _ => False
theorem e_mlk {z : T} {x i : X} : opA P dr n d (.mlk z x i) K s = mlkA s.hp z (s.ev x) (s.ev i) (Kp K s d) := by
  simp only [opA, qc, qt, mlkA, mlkO, Kp]
  generalize s.ev x = u; generalize s.ev i = v
  cases u with
  | own o => cases v with
    | lit v => cases v with
      | int k m => cases k <;> first | (simp; done) | (simp only; cases s.hp o with | none => simp | some ob => simp only; cases mlook m ob.l <;> rfl)
      | _ => simp
    | _ => simp
  | _ => simp
theorem mlkA_own {z : T} {o : Nat} {m : Int} {C : T → Prop} : mlkA h z (.own o) (.int m) C = mlkO z m C (h o) := rfl
theorem mlkO_some {z : T} {m : Int} {ty k : Nat} {l : List T} {C : T → Prop} : mlkO z m C (some ⟨ty, k, l⟩) = (k = mapK ∧ C (match mlook m l with | some u => .tup [u, .lit (.bool true)] | none => .tup [z, .lit (.bool false)])) := rfl
def mupO (h : Hp) (o : Nat) (m : Int) (v : T) (C : Hp → Prop) : Option Ob → Prop
  | some ob => ob.k = mapK ∧ (v.kd == 0 && v.oneC h) = true ∧ C (upd h o (some ⟨ob.ty, ob.k, mput m v ob.l⟩))
  | none => False
def mupA (h : Hp) (x i v : T) (C : Hp → Prop) : Prop :=
  match x, i with
  | .own o, .lit (.int .i64 m) => mupO h o m v C (h o)
  | _, _ => False
theorem e_mup {x i v : X} : opA P dr n d (.mup x i v) K ⟨fr, h, nx, pn⟩ = mupA h (AS.ev ⟨fr, h, nx, pn⟩ x) (AS.ev ⟨fr, h, nx, pn⟩ i) (AS.ev ⟨fr, h, nx, pn⟩ v) (Ks K fr nx pn) := by
  simp only [opA, mupA, mupO, Ks]
  generalize AS.ev ⟨fr, h, nx, pn⟩ x = u; generalize AS.ev ⟨fr, h, nx, pn⟩ i = w
  cases u with
  | own o => cases w with
    | lit w => cases w with
      | int k m => cases k <;> first | rfl | (simp only; cases h o <;> rfl)
      | _ => rfl
    | _ => rfl
  | _ => rfl
theorem mupA_own {o : Nat} {m : Int} {v : T} {C : Hp → Prop} : mupA h (.own o) (.int m) v C = mupO h o m v C (h o) := rfl
theorem mupO_some {o : Nat} {m : Int} {v : T} {ty k : Nat} {l : List T} {C : Hp → Prop} : mupO h o m v C (some ⟨ty, k, l⟩) = (k = mapK ∧ (v.kd == 0 && v.oneC h) = true ∧ C (upd h o (some ⟨ty, k, mput m v l⟩))) := rfl

/-! ### calls -/
/-- What goes on behind a call. -/
def Kc (dr : Bool) (K : AS → Prop) (s : AS) (d : Option Nat) (t : T) (h : Hp) : Prop := (dr = true → h = s.hp ∧ t.free = true) ∧ K { (s.put d t) with hp := h }
theorem e_call {f : FuncId} {xs : List X} : opA P dr n d (.call f xs) K s = ACalls P f (xs.map s.ev) s.hp n (Kc dr K s d) := rfl
theorem Kc_f {t : T} {h' : Hp} : Kc false K ⟨fr, h, nx, pn⟩ d t h' = K (AS.put ⟨fr, h', nx, pn⟩ d t) := by
  simp only [Kc, Bool.false_eq_true, false_implies, true_and]; cases d <;> rfl
theorem Kc_t {t : T} {h' : Hp} : Kc true K ⟨fr, h, nx, pn⟩ d t h' = ((h' = h ∧ t.free = true) ∧ K (AS.put ⟨fr, h', nx, pn⟩ d t)) := by
  simp only [Kc, true_implies]; cases d <;> rfl
def callvA (P : Program) (h : Hp) (n : Nat) (x : T) (xs : List T) (C : T → Hp → Prop) : Prop := match x with | .fn f cap => (bif Nat.blt f 4096 then ACalls P f (xs ++ cap) h n C else ACalls P (f % 4096) (.agg cap :: xs) h n C) | _ => False
theorem e_callv {x : X} {xs : List X} : opA P dr n d (.callv x xs) K s = callvA P s.hp n (s.ev x) (xs.map s.ev) (Kc dr K s d) := by
  simp only [opA, callvA]; cases s.ev x <;> rfl
theorem callvA_f {f : FuncId} {cap xs : List T} {C : T → Hp → Prop} : callvA P h n (.fn f cap) xs C = (bif Nat.blt f 4096 then ACalls P f (xs ++ cap) h n C else ACalls P (f % 4096) (.agg cap :: xs) h n C) := rfl

theorem upd_eq {i : Nat} {o : Option Ob} : upd h i o i = o := by simp [upd]
theorem upd_at {i j : Nat} {o : Option Ob} : upd h i o j = if j = i then o else h j := rfl
end

/-! ### monotony -/
section
variable {P : Program}
theorem guardA_mono {g : Option (Nat × Bool)} {s : AS} {y y' n n' : AS → Prop} (hy : ∀ s, y s → y' s) (hn : ∀ s, n s → n' s) (h : guardA g s y n) : guardA g s y' n' := by
  unfold guardA at h ⊢
  split at h
  · exact hy _ h
  · rename_i d want
    split at h
    · exact ⟨fun e => hy _ (h.1 e), fun e => hn _ (h.2 e)⟩
    · exact hn _ h
    · exact h.elim

theorem awOps_mono {dr : Bool} {m : Nat} {K K' : AS → Prop} (hK : ∀ s, K s → K' s) : ∀ {l : List AOper} {i : Nat} {s : AS}, awOps P dr m K l i s → awOps P dr m K' l i s := by
  intro l
  induction l with
  | nil => intro i s h; exact hK _ h
  | cons o r ih =>
    intro i s h
    simp only [awOps] at h ⊢
    exact guardA_mono (fun s h => ⟨h.1, opA_mono' (fun s' _ _ hh => ih hh) h.2⟩) (fun s h => ih h) h

theorem aw_mono : ∀ {c : ACode} {Q Q' : AExit → AS → Prop} {s : AS}, (∀ e s, Q e s → Q' e s) → aw P c Q s → aw P c Q' s := by
  intro c
  induction c with
  | skip => intro Q Q' s hQ h; exact hQ _ _ h
  | reg dr ops => intro Q Q' s hQ h; exact awOps_mono (hQ _) h
  | seq a b iha ihb =>
    intro Q Q' s hQ h
    refine iha (fun e s h => ?_) h
    cases e with
    | normal => exact ihb hQ h
    | exit _ => exact hQ _ _ h
    | ret => exact hQ _ _ h
  | cond c a b iha ihb =>
    intro Q Q' s hQ h
    simp only [aw] at h ⊢
    split at h
    · exact ⟨fun e => iha hQ (h.1 e), fun e => ihb hQ (h.2 e)⟩
    · exact h.elim
  | blk id b ih =>
    intro Q Q' s hQ h
    refine ih (fun e s h => ?_) h
    cases e with
    | normal => exact hQ _ _ h
    | exit j =>
      simp only at h ⊢
      cases hj : j == id <;> simp only [hj, cond_true, cond_false] at h ⊢ <;> exact hQ _ _ h
    | ret => exact hQ _ _ h
  | exit _ => intro Q Q' s hQ h; exact hQ _ _ h
  | ret => intro Q Q' s hQ h; exact hQ _ _ h
  | loop b ih =>
    intro Q Q' s hQ h
    obtain ⟨I, μ, h1, h2⟩ := h
    refine ⟨I, μ, h1, fun s hs => ih (fun e s h => ?_) (h2 s hs)⟩
    cases e with
    | normal => exact h
    | exit _ => exact hQ _ _ h
    | ret => exact hQ _ _ h
end

/-! ### loops -/

/-- A round of a loop ends: the next state is one of the family. -/
def Again {ι : Type} (st : ι → AS) (inv : ι → Prop) (μ : ι → Nat) (i : ι) (s : AS) : Prop := ∃ j, (inv j ∧ μ j < μ i) ∧ Wk (st j) s

theorem least {A : Nat → Prop} (h : ∃ n, A n) : ∃ n, A n ∧ ∀ k, A k → n ≤ k := by
  obtain ⟨n, hn⟩ := h
  induction n using Nat.strongRecOn with
  | _ n ih =>
    by_cases hx : ∃ k, k < n ∧ A k
    · obtain ⟨k, h1, h2⟩ := hx; exact ih k h1 h2
    · exact ⟨n, hn, fun k hk => Nat.le_of_not_lt fun hlt => hx ⟨k, hlt, hk⟩⟩

/-- A loop by a family of states. -/
theorem LoopA.rule {P : Program} {b : ACode} {Q : AExit → AS → Prop} {s : AS} {ι : Type} (st : ι → AS) (inv : ι → Prop) (μ : ι → Nat) (i : ι) (hi : inv i) (hw : Wk (st i) s)
    (round : ∀ i, inv i → aw P b (fun e s' => match e with | .normal => Again st inv μ i s' | e => Q e s') (st i)) : LoopA (aw P b) Q s := by
  classical
  let A (s : AS) (n : Nat) : Prop := ∃ i, inv i ∧ st i = s ∧ μ i = n
  let m (s : AS) : Nat := if h : ∃ n, A s n then (least h).choose else 0
  have hm : ∀ s, (∃ n, A s n) → A s (m s) ∧ ∀ k, A s k → m s ≤ k := by
    intro s hex
    have : m s = (least hex).choose := dif_pos hex
    rw [this]; exact (least hex).choose_spec
  have hle : ∀ i, inv i → m (st i) ≤ μ i := fun i hi => (hm (st i) ⟨μ i, i, hi, rfl, rfl⟩).2 _ ⟨i, hi, rfl, rfl⟩
  refine ⟨fun s => ∃ i, inv i ∧ st i = s, m, ⟨st i, hw, i, hi, rfl⟩, ?_⟩
  rintro s hs
  have hex : ∃ n, A s n := by obtain ⟨i, h1, h2⟩ := hs; exact ⟨μ i, i, h1, h2, rfl⟩
  obtain ⟨i, h1, h2, h3⟩ := (hm s hex).1
  subst h2
  refine aw_mono (fun e s' h => ?_) (round i h1)
  cases e with
  | normal =>
    obtain ⟨j, ⟨g1, g2⟩, g3⟩ := h
    refine ⟨st j, g3, ⟨j, g1, rfl⟩, ?_⟩
    have := hle j g1
    omega
  | exit _ => exact h
  | ret => exact h
end Go.Ab
/-
  The abstract layer, part 19: contracts of functions that write nothing that they are given.
-/
namespace Go.Ab
section
variable {P : Program}

def no : Hp := fun _ => none

def updO (h : Hp) (n : Nat) : Option Ob → Hp
  | none => h
  | some ob => upd h n (some ob)

mutual
/-- The value has no part in memory that is read only. -/
def T.hard : T → Bool
  | .sl _ _ l => l.isEmpty
  | .ref _ _ => false
  | .agg l => T.hardL l
  | .fn _ cap => T.hardL cap
  | .tup l => T.hardL l
  | _ => true
def T.hardL : List T → Bool
  | [] => true
  | t :: ts => T.hard t && T.hardL ts
end

/-- A function that writes nothing that it is given: its result, and the object that it makes. -/
structure AFn (P : Program) (f : FuncId) (ts : List T) (t : Nat → T) (o : Option Ob) : Prop where
  free : T.freeL ts = true
  ids : ∀ n, (t n).ids (fun i => i = n)
  ob : ∀ ob, o = some ob → T.freeL ob.l = true
  nm : ∀ ob, o = some ob → ob.k ≠ mapK
  call : ∀ n, ACalls P f ts no n fun t' h' => t' = t n ∧ h' = updO no n o

@[reducible] def APure (P : Program) (f : FuncId) (ts : List T) (t : T) : Prop := AFn P f ts (fun _ => t) none

/-- How such a function ends. -/
def EndO (t : Nat → T) (ob : Ob) (rs : List RV) (s : AS) : Prop :=
  ∃ s1, WkN s1 s ∧ resOk s1 rs ∧ ∃ m l', T.sub (fun i => i ≠ m) s1.hp (t m) (resT s1 rs) ∧ s1.hp m = some ⟨ob.ty, ob.k, l'⟩ ∧ T.subL (fun i => i ≠ m) s1.hp ob.l l'
def DoneF (t : Nat → T) (o : Option Ob) (rs : List RV) : AExit → AS → Prop
  | .exit _, _ => False
  | _, s => match o with
    | none => resOk s rs ∧ T.sub (fun _ => True) s.hp (t 0) (resT s rs)
    | some ob => EndO t ob rs s

/-- The object is there. -/
theorem EndO.here {t : Nat → T} {ob : Ob} {rs : List RV} {s : AS} (m : Nat) (l' : List T) (h1 : resOk s rs) (h2 : T.sub (fun i => i ≠ m) s.hp (t m) (resT s rs)) (h3 : s.hp m = some ⟨ob.ty, ob.k, l'⟩) (h4 : T.subL (fun i => i ≠ m) s.hp ob.l l') : EndO t ob rs s :=
  ⟨s, .refl _, h1, m, l', h2, h3, h4⟩
/-- A row's beginning becomes the object. -/
theorem EndO.take {t : Nat → T} {ob : Ob} {rs : List RV} {fr : List T} {h : Hp} {nx pn : Nat} (j i hi : Nat) (o : Ob) (hg : fr.getD j .any = .ovw i 0 hi) (ho : h i = some o) (hin : i < nx) (hle : hi ≤ o.l.length) (hnm : o.k ≠ mapK) (H : EndO t ob rs ⟨fr.set j (.own nx), upd (upd h i none) nx (some ⟨o.ty, o.k, o.l.take hi⟩), nx + 1, pn⟩) : EndO t ob rs ⟨fr, h, nx, pn⟩ := by
  obtain ⟨s1, h1, h2⟩ := H
  exact ⟨s1, .take ⟨j, i, hi, o, hg, ho, hin, hle, hnm, rfl⟩ h1, h2⟩
/-- A nil slice becomes the object. -/
theorem EndO.nil {t : Nat → T} {ob : Ob} {rs : List RV} {fr : List T} {h : Hp} {nx pn : Nat} (i : Nat) (ty k : Nat) {k' : Nat} (hg : fr.getD i .any = .sl k' true []) (hk : kPos k = true) (H : EndO t ob rs ⟨fr.set i (.own nx), upd h nx (some ⟨ty, k, []⟩), nx + 1, pn⟩) : EndO t ob rs ⟨fr, h, nx, pn⟩ := by
  obtain ⟨s1, h1, h2⟩ := H
  exact ⟨s1, .slot ⟨i, k', ty, k, hg, hk, rfl⟩ h1, h2⟩

theorem ren_id : ∀ t : T, t.ren id = t := by
  intro t
  apply T.rec (motive_1 := fun t => t.ren id = t) (motive_2 := fun l => T.renL id l = l)
  all_goals (intros; simp_all [T.ren, T.renL])

mutual
theorem ren_of {ρ : Nat → Nat} : (t : T) → t.ids (fun _ => False) → t.ren ρ = t
  | .lit _, _ => rfl
  | .agg l, h => by simp only [T.ren, T.ids] at h ⊢; rw [renL_of l h]
  | .sl _ _ _, _ => rfl
  | .ref _ _, _ => rfl
  | .own _, h => by simp [T.ids] at h
  | .ptr _ _ _, h => by simp [T.ids] at h
  | .ovw _ _ _, h => by simp [T.ids] at h
  | .fn f l, h => by simp only [T.ren, T.ids] at h ⊢; rw [renL_of l h]
  | .tup l, h => by simp only [T.ren, T.ids] at h ⊢; rw [renL_of l h]
  | .any, _ => rfl
theorem renL_of {ρ : Nat → Nat} : (l : List T) → T.idsL (fun _ => False) l → T.renL ρ l = l
  | [], _ => rfl
  | t :: ts, h => by simp only [T.renL, T.idsL] at h ⊢; rw [ren_of t h.1, renL_of ts h.2]
end

theorem no_ids (M : Nat → Prop) : idsH M no := fun _ _ h => by cases h

theorem updO_some {h : Hp} {n : Nat} {o : Option Ob} {i : Nat} {ob : Ob} (H : updO h n o i = some ob) : (i = n ∧ o = some ob) ∨ h i = some ob := by
  cases o with
  | none => exact .inr H
  | some o' =>
    simp only [updO, upd] at H
    split at H
    · exact .inl ⟨by assumption, H⟩
    · exact .inr H

theorem AFn.of_body {f : FuncId} {fn : Func} {c : Code} {ac : ACode} {rs : List RV} {ts : List T} {nt : Nat} {t : Nat → T} {o : Option Ob} (hf : P.funcs[f]? = some fn) (hb : fn.body = some c) (hc : comp P c = some ac)
    (hr : compRes P fn.results.toList = some rs) (hcl : callable P f) (hnt : fn.ntmps = nt) (hts : T.freeL ts = true) (ht : ∀ n m, (t n).ren (fun _ => m) = t m) (hid : ∀ n, (t n).ids (fun i => i = n ∧ o.isSome = true))
    (ho : ∀ ob, o = some ob → T.freeL ob.l = true ∧ ob.k ≠ mapK ∧ ∀ t ∈ ob.l, t.kd = ob.k)
    (H : aw P ac (DoneF t o rs) ⟨ts ++ List.replicate (nt - ts.length) T.un, no, 0, 0⟩) : AFn P f ts t o := by
  refine ⟨hts, fun n => T.ids_weaken (fun _ h => h.1) _ (hid n), fun ob h => (ho ob h).1, fun ob h => (ho ob h).2.1, fun n => ?_⟩
  refine ACalls.of_body (nx := 0) (nt := nt) hf hb hc hr hcl hnt ⟨_, _, rfl, rfl⟩ (T.idsL_weaken (fun _ h => h.elim) _ (freeL_ids hts)) (no_ids _) ?_
  have key : ∀ s, DoneF t o rs .ret s → ∃ s1, WkN s1 s ∧ Ret no n (fun t' h' => t' = t n ∧ h' = updO no n o) rs s1 := by
    intro s H
    cases o with
    | none =>
      obtain ⟨h1, h2⟩ := H
      refine ⟨s, .refl _, h1, fun _ => True, fun _ => 0, t n, no, ⟨rfl, rfl⟩, by rw [ht]; exact h2, (fun i ob hi => by cases hi), (fun i j hi => by cases hi), T.ids_weaken (fun _ h => absurd h.2 (by simp)) _ (hid n), no_ids _, (fun i hi => by cases hi)⟩
    | some ob =>
      obtain ⟨s1, hN, h1, m, l', h3, h4, h5⟩ := H
      have hob := ho ob rfl
      have hx : ∀ i ob', updO no n (some ob) i = some ob' → i = n ∧ ob' = ob := fun i ob' hi => by
        rcases updO_some hi with ⟨h1, h2⟩ | h
        · cases h2; exact ⟨h1, rfl⟩
        · cases h
      refine ⟨s1, hN, h1, fun i => i ≠ m, fun _ => m, t n, updO no n (some ob), ⟨rfl, rfl⟩, by rw [ht]; exact h3, fun i ob' hi => ?_, fun i j hi hj _ => ?_, T.ids_weaken (fun _ h => .inr h.1) _ (hid n), fun i ob' hi => ?_, fun i hi => by cases hi⟩
      · obtain ⟨rfl, rfl⟩ := hx i ob' hi
        refine ⟨_, h4, by simp, rfl, rfl, ?_, .inr hob.2⟩
        rw [renL_of _ (freeL_ids hob.1)]; exact h5
      · obtain ⟨oi, hi⟩ := Option.isSome_iff_exists.1 hi
        obtain ⟨oj, hj⟩ := Option.isSome_iff_exists.1 hj
        rw [(hx _ _ hi).1, (hx _ _ hj).1]
      · obtain ⟨rfl, rfl⟩ := hx i ob' hi
        exact ⟨.inr rfl, T.idsL_weaken (fun _ h => h.elim) _ (freeL_ids hob.1)⟩
  refine aw_mono (fun e s h => ?_) H
  cases e with
  | normal => exact key s h
  | ret => exact key s h
  | exit _ => exact h.elim

/-- Arguments that say less. -/
theorem ACalls.sub {f : FuncId} {ts ts' : List T} {h : Hp} {n : Nat} {post : T → Hp → Prop} (H : ACalls P f ts h n post) (hs : T.subL (fun _ => False) h ts ts') (hi : ∀ M, T.idsL M ts' → T.idsL M ts) : ACalls P f ts' h n post := by
  obtain ⟨h1, h2, h3⟩ := H
  refine ⟨h1, h2, fun F M E vs hk he hr hid hm hn => h3 F M E vs hk he ?_ (hi M hid) hm hn⟩
  subst he
  have := repVL_sub hk (Z := fun _ => False) _ _ hs _ hr
  refine repVL_mono (E := E.shut fun _ => False) (E' := E) _ (fun _ => True) ⟨fun b hb => ?_, fun _ _ => rfl, fun i _ hi => ⟨?_, rfl, rfl⟩⟩ (idsL_true _) _ this
  · rcases hb with hb | ⟨_, _, hf, _⟩
    · exact hb
    · exact hf.elim
  · rw [shut_of (fun h => h)]; exact hi

/-- A contract of a function that writes nothing, in a heap. -/
theorem AFn.frame {f : FuncId} {ts : List T} {t : Nat → T} {o : Option Ob} (H : AFn P f ts t o) (h : Hp) (n : Nat) : ACalls P f ts h n fun t' h' => t' = t n ∧ h' = updO h n o := by
  obtain ⟨_, hcl, hcall⟩ := H.call n
  refine ⟨⟨_, _, rfl, rfl⟩, hcl, fun F M E vs hk he hts hid hm hn => ?_⟩
  subst he
  have hfresh : E.h n = none := by
    cases hq : E.h n with
    | none => rfl
    | some ob => exact absurd (hm n ob hq).1 hn
  let E0 : Env := { E with h := no }
  let F0 : Fr P := ⟨fun g => F g ∨ ∃ i ob, E.h i = some ob ∧ rowB (E.φ i) = some g⟩
  have hk0 : HOk F0 E0 := by
    refine ⟨(fun i ob hi => by cases hi), (fun i ob g hi => by cases hi), (fun i j oi oj g _ hi => by cases hi), hk.slt, fun g hg => ?_, fun g hs hg => ?_, fun g cs hg => ⟨.inl (hk.gl g cs hg).1, (hk.gl g cs hg).2⟩⟩
    · rcases hg with hg | ⟨i, ob, h1, h3⟩
      · exact hk.flt g hg
      · exact (hk.obs i ob h1).1.lt h3
    · rcases hg with hg | ⟨i, ob, h1, h3⟩
      · exact hk.sf g hs hg
      · exact (hk.out i ob g h1 h3).1 hs
  refine (hcall F0 M E0 vs hk0 rfl (repVL_mono (E := E) (E' := E0) _ (fun _ => False) ⟨fun _ h => h, fun _ _ => rfl, fun _ hf => hf.elim⟩ (freeL_ids H.free) _ hts) hid (no_ids _) hn).mono ?_
  rintro e w' ⟨v, t', E0', rfl, rfl, ⟨rfl, hh⟩, hv, hk0', hext, _, _, _⟩
  let E' : Env := { E0' with h := updO E.h n o, φ := fun i => if i = n then E0'.φ i else E.φ i, κ := fun i => if i = n then E0'.κ i else E.κ i }
  have hφn : E'.φ n = E0'.φ n ∧ E'.κ n = E0'.κ n := ⟨if_pos rfl, if_pos rfl⟩
  have hφ : ∀ i, i ≠ n → E'.φ i = E.φ i ∧ E'.κ i = E.κ i := fun i hi => ⟨if_neg hi, if_neg hi⟩
  have hExt : Ext F E E' := ⟨hext.s, fun g hg => hext.w g (hg.imp id .inl), hext.size, hext.os, hext.tape, hext.output, hext.dr⟩
  have hcase : ∀ i ob, E'.h i = some ob → (i = n ∧ E0'.h i = some ob) ∨ (i ≠ n ∧ E.h i = some ob) := by
    intro i ob hi
    by_cases hin : i = n
    · subst hin
      rcases updO_some hi with ⟨_, h2⟩ | h2
      · left; refine ⟨rfl, ?_⟩; rw [hh, h2]; simp [updO, upd]
      · rw [hfresh] at h2; cases h2
    · rcases updO_some hi with ⟨h1, _⟩ | h2
      · exact absurd h1 hin
      · exact .inr ⟨hin, h2⟩
  have hSame : Same E E' M := by
    intro i hi hs
    obtain ⟨ob, hob⟩ := Option.isSome_iff_exists.1 hs
    rcases hcase i ob hob with ⟨rfl, _⟩ | ⟨h1, h2⟩
    · exact absurd hi hn
    · exact ⟨by rw [h2]; rfl, hφ i h1⟩
  have hKn : Keeps E0' E' (fun i => i = n) := by
    refine ⟨fun _ h => h, fun _ _ => rfl, ?_⟩
    rintro i rfl hs
    obtain ⟨ob, hob⟩ := Option.isSome_iff_exists.1 hs
    rcases hcase i ob hob with ⟨_, h2⟩ | ⟨h1, _⟩
    · exact ⟨by rw [h2]; rfl, hφn⟩
    · exact absurd rfl h1
  have hF0 : ∀ i ob g, E.h i = some ob → rowB (E.φ i) = some g → F0 g := fun i ob g h1 h2 => .inr ⟨i, ob, h1, h2⟩
  have hobn : ∀ ob, E0'.h n = some ob → o = some ob := fun ob h1 => by
    rw [hh] at h1
    rcases updO_some h1 with ⟨_, h2⟩ | h2
    · exact h2
    · cases h2
  refine ⟨v, t n, E', rfl, rfl, ⟨rfl, rfl⟩, repV_mono hKn (H.ids n) hv, ⟨fun i ob hi => ?_, fun i ob g hi hg => ?_, fun i j oi oj g hij hi hj hgi hgj => ?_, hk0'.slt, fun g hg => hk0'.flt g (.inl hg), fun g hs hg => hk0'.sf g hs (.inl hg), hExt.gl hk⟩, hExt, hSame,
    T.ids_weaken (fun _ h => .inr h) _ (H.ids n), fun i ob hi => ?_⟩
  · rcases hcase i ob hi with ⟨rfl, h1⟩ | ⟨h0, h1⟩
    · rw [hφn.1, hφn.2]
      obtain ⟨k1, k2, k3⟩ := hk0'.obs i ob h1
      exact ⟨k1.keep hKn.no (freeL_ids (H.ob ob (hobn ob h1))) (fun _ _ => rfl), k2, k3⟩
    · rw [(hφ i h0).1, (hφ i h0).2]
      obtain ⟨k1, k2, k3⟩ := hk.obs i ob h1
      exact ⟨k1.keep (.of hExt hSame) (hm i ob h1).2 (fun g hg => hext.w g (.inr (hF0 i ob g h1 hg))), k2, k3⟩
  · rcases hcase i ob hi with ⟨rfl, h1⟩ | ⟨h0, h1⟩
    · rw [hφn.1] at hg
      obtain ⟨k1, k2⟩ := hk0'.out i ob g h1 hg
      exact ⟨k1, fun h => k2 (.inl h)⟩
    · rw [(hφ i h0).1] at hg
      exact ⟨fun hs => hk0'.sf g hs (hF0 i ob g h1 hg), (hk.out i ob g h1 hg).2⟩
  · rcases hcase i oi hi with ⟨rfl, h1⟩ | ⟨h0, h1⟩ <;> rcases hcase j oj hj with ⟨h2, h3⟩ | ⟨h2, h3⟩
    · exact hij h2.symm
    · rw [hφn.1] at hgi; rw [(hφ j h2).1] at hgj
      exact (hk0'.out i oi g h1 hgi).2 (hF0 j oj g h3 hgj)
    · subst h2; rw [(hφ i h0).1] at hgi; rw [hφn.1] at hgj
      exact (hk0'.out j oj g h3 hgj).2 (hF0 i oi g h1 hgi)
    · rw [(hφ i h0).1] at hgi; rw [(hφ j h2).1] at hgj
      exact hk.sep i j oi oj g hij h1 h3 hgi hgj
  · rcases updO_some hi with ⟨h1, h2⟩ | h1
    · exact ⟨.inr h1, T.idsL_weaken (fun _ h => h.elim) _ (freeL_ids (H.ob ob h2))⟩
    · exact ⟨.inl (hm i ob h1).1, T.idsL_weaken (fun _ h => .inl h) _ (hm i ob h1).2⟩

/-- Use of such a contract. -/
theorem AFn.use {f : FuncId} {ts ts' : List T} {t : Nat → T} {o : Option Ob} (H : AFn P f ts t o) {h : Hp} {n : Nat} {K : T → Hp → Prop} (hs : T.subL (fun _ => False) h ts ts') (hK : K (t n) (updO h n o)) : ACalls P f ts' h n K :=
  ((H.frame h n).sub hs fun _ _ => T.idsL_weaken (fun _ h => h.elim) _ (freeL_ids H.free)).mono fun _ _ ⟨h1, h2⟩ => h1 ▸ h2 ▸ hK

/-- The new object is read only from now on. -/
theorem AFn.shut {f : FuncId} {ts : List T} {t : Nat → T} {o : Option Ob} (H : AFn P f ts t o) {t' : T} (hs : ∀ n, T.sub (fun _ => True) (updO no n o) t' (t n)) (ht : t'.free = true) : APure P f ts t' := by
  refine ⟨H.free, fun n => T.ids_weaken (fun _ h => h.elim) _ (free_ids ht), (fun ob h => by cases h), (fun ob h => by cases h), fun n => ?_⟩
  obtain ⟨_, hcl, hcall⟩ := H.call n
  refine ⟨⟨_, _, rfl, rfl⟩, hcl, fun F M E vs hk he hts hid hm hn => (hcall F M E vs hk he hts hid hm hn).mono ?_⟩
  rintro e w' ⟨v, t'', E', rfl, rfl, ⟨rfl, hh⟩, hv, hk', hext, hS, _, _⟩
  have hno : (E'.shut fun _ => True).h = no := by
    funext i; simp [Env.shut, no]
  refine ⟨v, t', E'.shut fun _ => True, rfl, rfl, ⟨rfl, hno⟩, repV_sub hk' (by rw [hh]; exact hs n) hv, hk'.shut _, hext.trans (shut_ext _ _ _), fun i _ hi => ?_, T.ids_weaken (fun _ h => h.elim) _ (free_ids ht), ?_⟩
  · rw [hno] at hi; cases hi
  · rw [hno]; exact no_ids _

mutual
theorem repC_hard {E E' : Env} (hφ : ∀ i, (E'.h i).isSome = true → (E.h i).isSome = true ∧ E'.φ i = E.φ i ∧ E'.κ i = E.κ i) : (t : T) → t.hard = true → (vs : List Value) → repC E t vs → repC E' t vs
  | .lit v, _, vs, h => by simpa [repC] using h
  | .agg l, hd, vs, h => by simp only [repC, T.hard] at h hd ⊢; exact repCL_hard hφ l hd vs h
  | .sl k f l, hd, vs, h => by
    simp only [T.hard, List.isEmpty_iff] at hd; subst hd
    simp only [repC] at h ⊢
    obtain ⟨a, c, h1, h2, h3, _⟩ := h
    exact ⟨a, c, h1, h2, h3, .inl trivial⟩
  | .ref _ _, hd, _, _ => by simp [T.hard] at hd
  | .own i, _, vs, h => by
    simp only [repC] at h ⊢
    obtain ⟨u, h1, h2⟩ := h
    refine ⟨u, h1, fun hs => ?_⟩
    obtain ⟨g1, g2, _⟩ := hφ i hs
    rw [g2]; exact h2 g1
  | .ptr i j off, _, vs, h => by
    simp only [repC] at h ⊢
    obtain ⟨u, h1, h2⟩ := h
    refine ⟨u, h1, fun hs => ?_⟩
    obtain ⟨g1, g2, g3⟩ := hφ i hs
    rw [g2, g3]; exact h2 g1
  | .ovw i lo hi, _, vs, h => by
    simp only [repC] at h ⊢
    obtain ⟨u, h1, h2⟩ := h
    refine ⟨u, h1, fun hs => ?_⟩
    obtain ⟨g1, g2, g3⟩ := hφ i hs
    rw [g2, g3]; exact h2 g1
  | .fn f cap, hd, vs, h => by
    simp only [repC, T.hard] at h hd ⊢
    obtain ⟨cs, h1, h2⟩ := h
    exact ⟨cs, h1, repCL_hard hφ cap hd _ h2⟩
  | .tup l, hd, vs, h => by
    simp only [repC, T.hard] at h hd ⊢
    obtain ⟨cs, h1, h2⟩ := h
    exact ⟨cs, h1, repVL_hard hφ l hd _ h2⟩
  | .any, _, _, _ => by simp [repC]
theorem repCL_hard {E E' : Env} (hφ : ∀ i, (E'.h i).isSome = true → (E.h i).isSome = true ∧ E'.φ i = E.φ i ∧ E'.κ i = E.κ i) : (l : List T) → T.hardL l = true → (vs : List Value) → repCL E l vs → repCL E' l vs
  | [], _, vs, h => by simpa [repCL] using h
  | t :: ts, hd, vs, h => by
    simp only [repCL, T.hardL, Bool.and_eq_true] at h hd ⊢
    obtain ⟨hk, v, r, h1, h0, h2, h3⟩ := h
    exact ⟨hk, v, r, h1, h0, repC_hard hφ t hd.1 _ h2, repCL_hard hφ ts hd.2 _ h3⟩
theorem repVL_hard {E E' : Env} (hφ : ∀ i, (E'.h i).isSome = true → (E.h i).isSome = true ∧ E'.φ i = E.φ i ∧ E'.κ i = E.κ i) : (l : List T) → T.hardL l = true → (vs : List Value) → repVL E l vs → repVL E' l vs
  | [], _, vs, h => by simpa [repVL] using h
  | t :: ts, hd, vs, h => by
    simp only [repVL, T.hardL, Bool.and_eq_true] at h hd ⊢
    obtain ⟨v, r, h1, h2, h3⟩ := h
    refine ⟨v, r, h1, ?_, repVL_hard hφ ts hd.2 _ h3⟩
    rcases h2 with ⟨hk, cs, h4, h5⟩ | ⟨hk, h4⟩
    · exact .inl ⟨hk, cs, h4, repC_hard hφ t hd.1 _ h5⟩
    · exact .inr ⟨hk, repC_hard hφ t hd.1 _ h4⟩
end

theorem repV_hard {E E' : Env} (hφ : ∀ i, (E'.h i).isSome = true → (E.h i).isSome = true ∧ E'.φ i = E.φ i ∧ E'.κ i = E.κ i) {t : T} (hd : t.hard = true) {v : Value} (h : repV E t v) : repV E' t v := by
  rcases h with ⟨hk, cs, h4, h5⟩ | ⟨hk, h4⟩
  · exact .inl ⟨hk, cs, h4, repC_hard hφ t hd _ h5⟩
  · exact .inr ⟨hk, repC_hard hφ t hd _ h4⟩

theorem repRows_hard {E E' : Env} (hφ : ∀ i, (E'.h i).isSome = true → (E.h i).isSome = true ∧ E'.φ i = E.φ i ∧ E'.κ i = E.κ i) {k : Nat} : ∀ {l : List T}, T.hardL l = true → ∀ {vs : List Value}, repRows E k l vs → repRows E' k l vs := by
  intro l
  induction l with
  | nil => intro _ vs _; simp [repRows]
  | cons t ts ih =>
    intro hd vs h
    simp only [repRows, T.hardL, Bool.and_eq_true] at h hd ⊢
    obtain ⟨h1, h2, h3, h4, h5⟩ := h
    exact ⟨h1, h2, h3, repC_hard hφ t hd.1 _ h4, ih hd.2 h5⟩

/-- Rows are lent: the function reads them; its result has no part of them. -/
theorem AFn.lend {f : FuncId} {ts ts' : List T} {t : Nat → T} {o : Option Ob} (H : AFn P f ts t o) {h : Hp} {n : Nat} {K : T → Hp → Prop} (hs : T.subL (fun _ => True) h ts ts') (hd : (t n).hard = true) (ho : ∀ ob, o = some ob → T.hardL ob.l = true) (hK : K (t n) (updO h n o)) :
    ACalls P f ts' h n K := by
  refine ACalls.mono (post := fun t' h' => t' = t n ∧ h' = updO h n o) ?_ fun _ _ ⟨h1, h2⟩ => h1 ▸ h2 ▸ hK
  obtain ⟨_, hcl, hcall⟩ := H.call n
  refine ⟨⟨_, _, rfl, rfl⟩, hcl, fun F M E vs hk he hts hid hm hn => ?_⟩
  subst he
  have hfresh : E.h n = none := by
    cases hq : E.h n with
    | none => rfl
    | some ob => exact absurd (hm n ob hq).1 hn
  let E0 : Env := E.shut fun _ => True
  have hno : E0.h = no := by funext i; simp [E0, Env.shut, no]
  refine (hcall F M E0 vs (hk.shut _) hno (repVL_sub hk _ _ hs _ hts) (T.idsL_weaken (fun _ h => h.elim) _ (freeL_ids H.free)) (no_ids _) hn).mono ?_
  rintro e w' ⟨v, t', E0', rfl, rfl, ⟨rfl, hh⟩, hv, hk0', hext, _, _, _⟩
  let E' : Env := { E0' with S := E.S, h := updO E.h n o, φ := fun i => if i = n then E0'.φ i else E.φ i, κ := fun i => if i = n then E0'.κ i else E.κ i }
  have hφn : E'.φ n = E0'.φ n ∧ E'.κ n = E0'.κ n := ⟨if_pos rfl, if_pos rfl⟩
  have hφ : ∀ i, i ≠ n → E'.φ i = E.φ i ∧ E'.κ i = E.κ i := fun i hi => ⟨if_neg hi, if_neg hi⟩
  have hSw : ∀ g, E.S g → E0.S g := fun g h => .inl h
  have hOw : ∀ i ob g, E.h i = some ob → rowB (E.φ i) = some g → E0.S g := fun i ob g h1 h2 => .inr ⟨i, ob, trivial, h1, h2⟩
  have hExt : Ext F E E' := ⟨fun _ h => h, fun g hg => hext.w g (hg.imp (hSw g) id), hext.size, hext.os, hext.tape, hext.output, hext.dr⟩
  have hcase : ∀ i ob, E'.h i = some ob → (i = n ∧ E0'.h i = some ob) ∨ (i ≠ n ∧ E.h i = some ob) := by
    intro i ob hi
    by_cases hin : i = n
    · subst hin
      rcases updO_some hi with ⟨_, h2⟩ | h2
      · left; refine ⟨rfl, ?_⟩; rw [hh, h2]; simp [updO, upd]
      · rw [hfresh] at h2; cases h2
    · rcases updO_some hi with ⟨h1, _⟩ | h2
      · exact absurd h1 hin
      · exact .inr ⟨hin, h2⟩
  have hSame : Same E E' M := by
    intro i hi hs
    obtain ⟨ob, hob⟩ := Option.isSome_iff_exists.1 hs
    rcases hcase i ob hob with ⟨rfl, _⟩ | ⟨h1, h2⟩
    · exact absurd hi hn
    · exact ⟨by rw [h2]; rfl, hφ i h1⟩
  have hobn : ∀ ob, E0'.h n = some ob → o = some ob := fun ob h1 => by
    rw [hh] at h1
    rcases updO_some h1 with ⟨_, h2⟩ | h2
    · exact h2
    · cases h2
  let E2 : Env := { E' with h := updO no n o }
  have h02 : ∀ i, (E2.h i).isSome = true → (E0'.h i).isSome = true ∧ E2.φ i = E0'.φ i ∧ E2.κ i = E0'.κ i := by
    intro i hi
    obtain ⟨ob, hob⟩ := Option.isSome_iff_exists.1 hi
    rcases updO_some hob with ⟨rfl, h2⟩ | h2
    · exact ⟨by rw [hh]; exact hi, hφn⟩
    · cases h2
  have hK2 : Keeps E2 E' (fun i => i = n) := by
    refine ⟨fun _ h => h, fun _ _ => rfl, ?_⟩
    rintro i rfl hi
    obtain ⟨ob, hob⟩ := Option.isSome_iff_exists.1 hi
    refine ⟨?_, rfl, rfl⟩
    rcases updO_some hob with ⟨_, h2⟩ | h2
    · show (updO no i o i).isSome = true
      rw [h2]; simp [updO, upd]
    · rw [hfresh] at h2; cases h2
  refine ⟨v, t n, E', rfl, rfl, ⟨rfl, rfl⟩, repV_mono hK2 (H.ids n) (repV_hard h02 hd hv), ⟨fun i ob hi => ?_, fun i ob g hi hg => ?_, fun i j oi oj g hij hi hj hgi hgj => ?_, fun g hg => Nat.lt_of_lt_of_le (hk.slt g hg) hext.size, hk0'.flt, hk.sf, hExt.gl hk⟩, hExt, hSame,
    T.ids_weaken (fun _ h => .inr h) _ (H.ids n), fun i ob hi => ?_⟩
  · rcases hcase i ob hi with ⟨rfl, h1⟩ | ⟨h0, h1⟩
    · rw [hφn.1, hφn.2]
      obtain ⟨k1, k2, k3⟩ := hk0'.obs i ob h1
      refine ⟨?_, k2, k3⟩
      have hnm := H.nm ob (hobn ob h1)
      rcases k1.row hnm with k1 | ⟨g, c, cur, q1, q2, q3, q4, q5, q6⟩
      · exact .inl ⟨hnm, .inl k1⟩
      · refine .inl ⟨hnm, .inr ⟨g, c, cur, q1, q2, q3, q4, q5, ?_⟩⟩
        exact repRows_mono _ _ _ hK2.no (freeL_ids (H.ob ob (hobn ob h1))) _ (repRows_hard h02 (ho ob (hobn ob h1)) q6)
    · rw [(hφ i h0).1, (hφ i h0).2]
      obtain ⟨k1, k2, k3⟩ := hk.obs i ob h1
      exact ⟨k1.keep (.of hExt hSame) (hm i ob h1).2 (fun g hg => hext.w g (.inl (hOw i ob g h1 hg))), k2, k3⟩
  · rcases hcase i ob hi with ⟨rfl, h1⟩ | ⟨h0, h1⟩
    · rw [hφn.1] at hg
      obtain ⟨k1, k2⟩ := hk0'.out i ob g h1 hg
      exact ⟨fun hs => k1 (hext.s g (hSw g hs)), k2⟩
    · rw [(hφ i h0).1] at hg
      exact hk.out i ob g h1 hg
  · rcases hcase i oi hi with ⟨rfl, h1⟩ | ⟨h0, h1⟩ <;> rcases hcase j oj hj with ⟨h2, h3⟩ | ⟨h2, h3⟩
    · exact hij h2.symm
    · rw [hφn.1] at hgi; rw [(hφ j h2).1] at hgj
      exact (hk0'.out i oi g h1 hgi).1 (hext.s g (hOw j oj g h3 hgj))
    · subst h2; rw [(hφ i h0).1] at hgi; rw [hφn.1] at hgj
      exact (hk0'.out j oj g h3 hgj).1 (hext.s g (hOw i oi g h1 hgi))
    · rw [(hφ i h0).1] at hgi; rw [(hφ j h2).1] at hgj
      exact hk.sep i j oi oj g hij h1 h3 hgi hgj
  · rcases updO_some hi with ⟨h1, h2⟩ | h1
    · exact ⟨.inr h1, T.idsL_weaken (fun _ h => h.elim) _ (freeL_ids (H.ob ob h2))⟩
    · exact ⟨.inl (hm i ob h1).1, T.idsL_weaken (fun _ h => .inl h) _ (hm i ob h1).2⟩

end
end Go.Ab
/-
  The abstract layer, part 20: short forms of operations; rules for lists; ends of functions.
-/
namespace Go.Ab

def bs (l : List UInt8) : ByteArray := ⟨l.toArray⟩
def o (d : Nat) (op : AOp) : AOper := ⟨some d, op, none, false, []⟩
def ov (op : AOp) : AOper := ⟨none, op, none, false, []⟩
def og (d g : Nat) (w : Bool) (op : AOp) : AOper := ⟨some d, op, some (g, w), false, []⟩

section
variable {P : Program} {dr : Bool} {n m : Nat} {K : AS → Prop} {s : AS} {fr : List T} {h : Hp} {nx pn i : Nat} {op : AOp} {r : List AOper} {d : Nat}
theorem ops_o : awOps P dr m K (o d op :: r) i ⟨fr, h, nx, pn⟩ = opA P dr (nx + i) (some d) op (awOps P dr m K r (i + 1)) ⟨fr, h, nx, pn⟩ := ops_cons
theorem ops_ov : awOps P dr m K (ov op :: r) i ⟨fr, h, nx, pn⟩ = opA P dr (nx + i) none op (awOps P dr m K r (i + 1)) ⟨fr, h, nx, pn⟩ := ops_cons
theorem ops_og {g : Nat} {w : Bool} : awOps P dr m K (og d g w op :: r) i ⟨fr, h, nx, pn⟩ =
    gdA (fr.getD g .any) w (Gy P dr (nx + i) (some d) op (awOps P dr m K r (i + 1)) g fr h nx pn) (Gn (some d) (awOps P dr m K r (i + 1)) g fr h nx pn) := ops_guard
end

/-- A frame: these slots, nothing known of the others. -/
def slots (n : Nat) (l : List (Nat × T)) : List T := l.foldl (fun fr p => fr.set p.1 p.2) (List.replicate n .any)

theorem DoneF_ret0 {t : Nat → T} {rs : List RV} {fr : List T} {h : Hp} {nx pn : Nat} : DoneF t none rs .ret ⟨fr, h, nx, pn⟩ = (resOk ⟨fr, h, nx, pn⟩ rs ∧ T.sub (fun _ => True) h (t 0) (resT ⟨fr, h, nx, pn⟩ rs)) := rfl
theorem DoneF_ret1 {t : Nat → T} {ob : Ob} {rs : List RV} {fr : List T} {h : Hp} {nx pn : Nat} : DoneF t (some ob) rs .ret ⟨fr, h, nx, pn⟩ = EndO t ob rs ⟨fr, h, nx, pn⟩ := rfl
theorem resOk_1 {s : AS} {a : Nat} : resOk s [.slot a] = True := by simp [resOk, RV.ok]
theorem resOk_2 {s : AS} {a b : Nat} : resOk s [.slot a, .slot b] = True := by simp [resOk, RV.ok]
theorem resOk_3 {s : AS} {a b c : Nat} : resOk s [.slot a, .slot b, .slot c] = True := by simp [resOk, RV.ok]
theorem resT_1 {fr : List T} {h : Hp} {nx pn a : Nat} : resT ⟨fr, h, nx, pn⟩ [.slot a] = fr.getD a T.un := rfl
theorem resT_2 {fr : List T} {h : Hp} {nx pn a b : Nat} : resT ⟨fr, h, nx, pn⟩ [.slot a, .slot b] = .tup [fr.getD a T.un, fr.getD b T.un] := rfl
theorem resT_3 {fr : List T} {h : Hp} {nx pn a b c : Nat} : resT ⟨fr, h, nx, pn⟩ [.slot a, .slot b, .slot c] = .tup [fr.getD a T.un, fr.getD b T.un, fr.getD c T.un] := rfl

section
variable {Z : Nat → Prop} {h : Hp}
mutual
theorem sub_refl : (t : T) → T.sub Z h t t
  | .any => by simp [T.sub]
  | .sl k f l => by simp [T.sub]
  | .agg l => by simp only [T.sub]; exact subL_refl l
  | .tup l => by simp only [T.sub]; exact subL_refl l
  | .lit _ => by simp [T.sub]
  | .ref _ _ => by simp [T.sub]
  | .own _ => by simp [T.sub]
  | .ptr _ _ _ => by simp [T.sub]
  | .ovw _ _ _ => by simp [T.sub]
  | .fn _ _ => by simp [T.sub]
theorem subL_refl : (l : List T) → T.subL Z h l l
  | [] => by simp [T.subL]
  | t :: ts => by simp only [T.subL]; exact ⟨sub_refl t, subL_refl ts⟩
end
theorem subL_append {a b a' b' : List T} (h1 : T.subL Z h a a') (h2 : T.subL Z h b b') : T.subL Z h (a ++ b) (a' ++ b') := by
  induction a generalizing a' with
  | nil => cases a' with
    | nil => exact h2
    | cons x xs => simp [T.subL] at h1
  | cons x xs ih => cases a' with
    | nil => simp [T.subL] at h1
    | cons y ys => simp only [T.subL, List.cons_append] at h1 ⊢; exact ⟨h1.1, ih h1.2⟩
end

/-- A state of the family at a loop's head, with no object of its own. -/
theorem Wk.pure {fr fr' : List T} {h : Hp} {nx nx' pn : Nat} (hs : T.subL (fun _ => True) h fr fr') (hf : T.freeL fr = true) (hn : pn ≤ nx) : Wk ⟨fr, no, nx, pn⟩ ⟨fr', h, nx', pn⟩ :=
  ⟨_, .refl _, .inr ⟨fun _ => True, id, ⟨by rw [renL_of _ (freeL_ids hf)]; exact hs, (fun i ob hi => by cases hi), (fun i j hi => by cases hi), T.idsL_weaken (fun _ h => h.elim) _ (freeL_ids hf), no_ids _, rfl, hn, fun i _ hi => by cases hi⟩⟩⟩

theorem wrap64 {n : Int} (h1 : -9223372036854775808 ≤ n) (h2 : n < 9223372036854775808) : IntKind.i64.wrap n = n := by
  have e : IntKind.i64.wrap n = (if (true && decide (n % 18446744073709551616 ≥ 9223372036854775808)) = true then n % 18446744073709551616 - 18446744073709551616 else n % 18446744073709551616) := rfl
  rw [e]
  simp only [Bool.true_and, decide_eq_true_eq]
  split <;> omega

/-! ### a loop's head with objects -/

/-- The elements have their kind. -/
def kdB (k : Nat) (l : List T) : Bool := bif k == 1000000007 then l.all isEnt else l.all fun t => t.kd == k
theorem kdB_of {k : Nat} {l : List T} (h : kdB k l = true) : (k = mapK ∧ l.all isEnt = true) ∨ (k ≠ mapK ∧ ∀ t ∈ l, t.kd = k) := by
  unfold kdB at h
  cases hk : (k == 1000000007) with
  | true => rw [hk] at h; exact .inl ⟨by simpa using hk, h⟩
  | false => rw [hk] at h; exact .inr ⟨by simpa using hk, by simpa using h⟩

theorem Wk.nilSlot {s : AS} {fr : List T} {h : Hp} {nx pn : Nat} (i : Nat) (ty k : Nat) {k' : Nat} (hg : fr.getD i .any = .sl k' true []) (hk : kPos k = true) (H : Wk s ⟨fr.set i (.own nx), upd h nx (some ⟨ty, k, []⟩), nx + 1, pn⟩) : Wk s ⟨fr, h, nx, pn⟩ := by
  obtain ⟨s1, h1, h2⟩ := H
  exact ⟨s1, .slot ⟨i, k', ty, k, hg, hk, rfl⟩ h1, h2⟩
theorem Wk.take {s : AS} {fr : List T} {h : Hp} {nx pn : Nat} (j i hi : Nat) (o : Ob) (hg : fr.getD j .any = .ovw i 0 hi) (ho : h i = some o) (hin : i < nx) (hle : hi ≤ o.l.length) (hnm : o.k ≠ mapK) (H : Wk s ⟨fr.set j (.own nx), upd (upd h i none) nx (some ⟨o.ty, o.k, o.l.take hi⟩), nx + 1, pn⟩) : Wk s ⟨fr, h, nx, pn⟩ := by
  obtain ⟨s1, h1, h2⟩ := H
  exact ⟨s1, .take ⟨j, i, hi, o, hg, ho, hin, hle, hnm, rfl⟩ h1, h2⟩
theorem Wk.nilCell {s : AS} {fr : List T} {h : Hp} {nx pn : Nat} (j c : Nat) (ty k : Nat) {k' oty : Nat} {cs : List T} (hj : h j = some ⟨oty, cs.length + 1, [.agg cs]⟩) (hc : c < cs.length) (hg : cs.getD c .any = .sl k' true []) (hk : kPos k = true) (hn : j < nx)
    (H : Wk s ⟨fr, upd (upd h j (some ⟨oty, cs.length + 1, [.agg (cs.set c (.own nx))]⟩)) nx (some ⟨ty, k, []⟩), nx + 1, pn⟩) : Wk s ⟨fr, h, nx, pn⟩ := by
  obtain ⟨s1, h1, h2⟩ := H
  exact ⟨s1, .cell ⟨j, c, k', ty, k, oty, cs, hj, hc, hg, hk, hn, rfl⟩ h1, h2⟩

/-- A heap out of a list: name at the head, name now, object. -/
def hpL : List (Nat × Nat × Ob) → Hp
  | [] => no
  | p :: r => upd (hpL r) p.1 (some p.2.2)

/-- The name now. -/
def nowL : List (Nat × Nat × Ob) → Nat → Nat
  | [], i => i
  | p :: r, i => if i = p.1 then p.2.1 else nowL r i

def memL : List (Nat × Nat × Ob) → Nat → Prop
  | [], _ => False
  | p :: r, j => j = p.2.1 ∨ memL r j

def okL (Z : Nat → Prop) (ρ : Nat → Nat) (h : Hp) (nx pn : Nat) : List (Nat × Nat × Ob) → Prop
  | [] => True
  | p :: r => (p.1 < nx ∧ (p.1 < pn → p.2.1 = p.1) ∧ ¬ memL r p.2.1 ∧ T.idsL (· < nx) p.2.2.l ∧ kdB p.2.2.k p.2.2.l = true ∧ ∃ l', h p.2.1 = some ⟨p.2.2.ty, p.2.2.k, l'⟩ ∧ T.subL Z h (T.renL ρ p.2.2.l) l') ∧ okL Z ρ h nx pn r

theorem hpL_get : ∀ {L : List (Nat × Nat × Ob)} {i : Nat} {ob : Ob}, hpL L i = some ob → (i, nowL L i, ob) ∈ L ∧ memL L (nowL L i) := by
  intro L
  induction L with
  | nil => intro i ob h; cases h
  | cons p r ih =>
    intro i ob h
    simp only [hpL, upd] at h
    simp only [nowL, memL]
    split at h
    · rename_i hi; cases h; subst hi; simp
    · rename_i hi; rw [if_neg hi]; obtain ⟨h1, h2⟩ := ih h; exact ⟨List.mem_cons_of_mem _ h1, .inr h2⟩

theorem okL_get {Z : Nat → Prop} {ρ : Nat → Nat} {h : Hp} {nx pn : Nat} : ∀ {L : List (Nat × Nat × Ob)}, okL Z ρ h nx pn L → ∀ {p}, p ∈ L →
    (p.1 < nx ∧ (p.1 < pn → p.2.1 = p.1) ∧ T.idsL (· < nx) p.2.2.l ∧ kdB p.2.2.k p.2.2.l = true ∧ ∃ l', h p.2.1 = some ⟨p.2.2.ty, p.2.2.k, l'⟩ ∧ T.subL Z h (T.renL ρ p.2.2.l) l') := by
  intro L
  induction L with
  | nil => intro _ p hp; cases hp
  | cons q r ih =>
    intro hL p hp
    simp only [okL] at hL
    rcases List.mem_cons.1 hp with rfl | hp
    · obtain ⟨⟨h1, h2, _, h3, h4, h5⟩, _⟩ := hL; exact ⟨h1, h2, h3, h4, h5⟩
    · exact ih hL.2 hp

theorem okL_inj {Z : Nat → Prop} {ρ : Nat → Nat} {h : Hp} {nx pn : Nat} : ∀ {L : List (Nat × Nat × Ob)}, okL Z ρ h nx pn L → ∀ {i j : Nat} {oi oj : Ob}, hpL L i = some oi → hpL L j = some oj → nowL L i = nowL L j → i = j := by
  intro L
  induction L with
  | nil => intro _ i j oi oj hi; cases hi
  | cons q r ih =>
    intro hL i j oi oj hi hj e
    simp only [okL] at hL
    obtain ⟨⟨_, _, hn, _⟩, hr⟩ := hL
    simp only [hpL, upd] at hi hj
    simp only [nowL] at e
    by_cases h1 : i = q.1 <;> by_cases h2 : j = q.1
    · rw [h1, h2]
    · rw [if_pos h1, if_neg h2] at e; rw [if_neg h2] at hj
      exact absurd (e ▸ (hpL_get hj).2) hn
    · rw [if_neg h1, if_pos h2] at e; rw [if_neg h1] at hi
      exact absurd (e ▸ (hpL_get hi).2) hn
    · rw [if_neg h1, if_neg h2] at e; rw [if_neg h1] at hi; rw [if_neg h2] at hj
      exact ih hr hi hj e

theorem Wk.objs (L : List (Nat × Nat × Ob)) {fr fr' : List T} {h : Hp} {nx nx' pn : Nat} (hs : T.subL (fun i => ¬ memL L i) h (T.renL (nowL L) fr) fr') (hf : T.idsL (· < nx) fr) (hn : pn ≤ nx)
    (hL : okL (fun i => ¬ memL L i) (nowL L) h nx pn L) : Wk ⟨fr, hpL L, nx, pn⟩ ⟨fr', h, nx', pn⟩ := by
  refine ⟨_, .refl _, .inr ⟨fun i => ¬ memL L i, nowL L, ⟨hs, fun i ob hi => ?_, fun i j hi hj e => ?_, hf, fun i ob hi => ?_, rfl, hn, fun i hi hs => ?_⟩⟩⟩
  · obtain ⟨h1, h2⟩ := hpL_get hi
    obtain ⟨_, _, _, h4, l', h5, h6⟩ := okL_get hL h1
    exact ⟨_, h5, fun hz => hz h2, rfl, rfl, h6, kdB_of h4⟩
  · obtain ⟨oi, hi⟩ := Option.isSome_iff_exists.1 hi
    obtain ⟨oj, hj⟩ := Option.isSome_iff_exists.1 hj
    exact okL_inj hL hi hj e
  · obtain ⟨h1, _, h3, _⟩ := okL_get hL (hpL_get hi).1
    exact ⟨h1, h3⟩
  · obtain ⟨ob, hob⟩ := Option.isSome_iff_exists.1 hs
    obtain ⟨_, h2, _⟩ := okL_get hL (hpL_get hob).1
    exact h2 hi
end Go.Ab
/-
  Data of the program as plain values, and the abstract values that stand for them. No condition.
-/
namespace Go.Ab

theorem getD_mid {α : Type} {a b : List α} {x d : α} : (a ++ x :: b).getD a.length d = x := by simp [List.getD_eq_getElem?_getD]

abbrev Str := List UInt8

structure Lin where
  c : Int
  n : Int
  t : Int
  f : Int
  deriving DecidableEq, Inhabited
structure Thr where
  message : Int
  coef : Int
  bound : Lin
  deriving DecidableEq, Inhabited
structure Rule where
  name : Str
  kind : Int
  fr : Int
  to : Int
  pfrom : Int
  pto : Int
  response : List Int
  guards : List Thr
  ex : List Int
  all : List Int
  read : Int
  write : Int
  send : List Int
  pos : Int
  left : List Int
  right : List Int
  parent : List Int
  direction : Int
  deriving DecidableEq, Inhabited
structure Prot where
  name : Str
  topology : Int
  states : List Str
  messages : List Str
  values : List Str
  fault : Int
  resilience : List Lin
  initial : List Int
  leader : List Int
  rules : List Rule
  deriving DecidableEq, Inhabited
structure Cnt where
  states : List Int
  least : Int
  deriving DecidableEq, Inhabited
structure Prop' where
  name : Str
  kind : Int
  start : List Int
  bad : List Cnt
  adjacent : List Int
  goal : List Int
  deriving DecidableEq, Inhabited
structure Clause where
  each : List (List Int)
  values : List Int
  some : List Int
  deriving DecidableEq, Inhabited
structure Elem where
  value : Int
  counts : List Int
  deriving DecidableEq, Inhabited

def eS (s : Str) : T := .lit (.string (bs s))
@[reducible] def ints (l : List Int) : T := .sl 0 false (l.map T.int)
@[reducible] def bools (l : List Bool) : T := .sl 0 false (l.map T.bool)
@[reducible] def strs (l : List Str) : T := .sl 0 false (l.map eS)
def eLin (x : Lin) : T := .agg [.int x.c, .int x.n, .int x.t, .int x.f]
def eThr (x : Thr) : T := .agg [.int x.message, .int x.coef, .int x.bound.c, .int x.bound.n, .int x.bound.t, .int x.bound.f]
def eRule (x : Rule) : T := .agg [eS x.name, .int x.kind, .int x.fr, .int x.to, .int x.pfrom, .int x.pto, ints x.response, .sl 7 false (x.guards.map eThr), ints x.ex, ints x.all, .int x.read, .int x.write, ints x.send, .int x.pos, ints x.left, ints x.right, ints x.parent, .int x.direction]
def eProt (x : Prot) : T := .agg [eS x.name, .int x.topology, strs x.states, strs x.messages, strs x.values, .int x.fault, .sl 5 false (x.resilience.map eLin), ints x.initial, ints x.leader, .sl 19 false (x.rules.map eRule)]
def eCnt (x : Cnt) : T := .agg [ints x.states, .int x.least]
def eProp (x : Prop') : T := .agg [eS x.name, .int x.kind, ints x.start, .sl 3 false (x.bad.map eCnt), ints x.adjacent, ints x.goal]
@[reducible] def eInts (l : List Int) : T := ints l
def eClause (x : Clause) : T := .agg [.sl 0 false (x.each.map ints), ints x.values, ints x.some]
def eElem (x : Elem) : T := .agg [.int x.value, ints x.counts]

theorem bs_toList (l : List UInt8) : (bs l).toList = l := by
  rw [ByteArray.toList_eq]; rfl
theorem bs_size (l : List UInt8) : (bs l).size = l.length := by simp [bs, ByteArray.size]
theorem bs_get (l : List UInt8) (i : Nat) : (bs l).data.getD i 0 = l.getD i 0 := by simp [bs, Array.getD_eq_getD_getElem?, List.getD_eq_getElem?_getD]
theorem kc_lit {v : Value} : (T.lit v).kd = 0 := rfl
theorem kc_agg {l : List T} : (T.agg l).kd = l.length + 1 := rfl
theorem kc_sl {k : Nat} {f : Bool} {l : List T} : (T.sl k f l).kd = 0 := rfl
theorem kc_ref {k : Nat} {t : T} : (T.ref k t).kd = 0 := rfl
theorem kc_own {i : Nat} : (T.own i).kd = 0 := rfl
theorem kc_ptr {i j k : Nat} : (T.ptr i j k).kd = 0 := rfl
theorem kc_ovw {i j k : Nat} : (T.ovw i j k).kd = 0 := rfl
theorem kc_fn {f : FuncId} {l : List T} : (T.fn f l).kd = 0 := rfl
theorem kc_tup {l : List T} : (T.tup l).kd = 0 := rfl
theorem kc_any : T.any.kd = 0 := rfl
theorem sc_agg {l : List T} {h : Hp} : (T.agg l).stOk h = true := rfl
theorem sc_lit {v : Value} {h : Hp} : (T.lit v).stOk h = v.oneCell' := rfl
theorem oc_lit {v : Value} {h : Hp} : (T.lit v).oneC h = v.oneCell' := rfl
theorem sc_sl {k : Nat} {f : Bool} {l : List T} {h : Hp} : (T.sl k f l).stOk h = true := rfl
theorem oc_sl {k : Nat} {f : Bool} {l : List T} {h : Hp} : (T.sl k f l).oneC h = true := rfl
theorem sc_ref {k : Nat} {t : T} {h : Hp} : (T.ref k t).stOk h = true := rfl
theorem oc_ref {k : Nat} {t : T} {h : Hp} : (T.ref k t).oneC h = true := rfl
theorem sc_own {i : Nat} {h : Hp} : (T.own i).stOk h = (h i).isSome := rfl
theorem oc_own {i : Nat} {h : Hp} : (T.own i).oneC h = (h i).isSome := rfl
theorem sc_ptr {i j k : Nat} {h : Hp} : (T.ptr i j k).stOk h = (h i).isSome := rfl
theorem oc_ptr {i j k : Nat} {h : Hp} : (T.ptr i j k).oneC h = (h i).isSome := rfl
theorem sc_ovw {i j k : Nat} {h : Hp} : (T.ovw i j k).stOk h = (h i).isSome := rfl
theorem oc_ovw {i j k : Nat} {h : Hp} : (T.ovw i j k).oneC h = (h i).isSome := rfl
theorem sc_fn {f : FuncId} {l : List T} {h : Hp} : (T.fn f l).stOk h = true := rfl
theorem oc_fn {f : FuncId} {l : List T} {h : Hp} : (T.fn f l).oneC h = true := rfl
theorem pt_eLin_c {x : Lin} : (eLin x).part 0 0 = .int x.c := rfl
theorem pt_eLin_n {x : Lin} : (eLin x).part 1 0 = .int x.n := rfl
theorem pt_eLin_t {x : Lin} : (eLin x).part 2 0 = .int x.t := rfl
theorem pt_eLin_f {x : Lin} : (eLin x).part 3 0 = .int x.f := rfl
theorem kd_eLin {x : Lin} : (eLin x).kd = 5 := rfl
theorem st_eLin {x : Lin} {h : Hp} : (eLin x).stOk h = true := rfl
theorem fr_eLin {x : Lin} : (eLin x).free = true := rfl
theorem pt_eThr_message {x : Thr} : (eThr x).part 0 0 = .int x.message := rfl
theorem pt_eThr_coef {x : Thr} : (eThr x).part 1 0 = .int x.coef := rfl
theorem pt_eThr_bound {x : Thr} : (eThr x).part 2 5 = eLin x.bound := rfl
theorem kd_eThr {x : Thr} : (eThr x).kd = 7 := rfl
theorem st_eThr {x : Thr} {h : Hp} : (eThr x).stOk h = true := rfl
theorem fr_eThr {x : Thr} : (eThr x).free = true := rfl
theorem pt_eRule_name {x : Rule} : (eRule x).part 0 0 = eS x.name := rfl
theorem pt_eRule_kind {x : Rule} : (eRule x).part 1 0 = .int x.kind := rfl
theorem pt_eRule_fr {x : Rule} : (eRule x).part 2 0 = .int x.fr := rfl
theorem pt_eRule_to {x : Rule} : (eRule x).part 3 0 = .int x.to := rfl
theorem pt_eRule_pfrom {x : Rule} : (eRule x).part 4 0 = .int x.pfrom := rfl
theorem pt_eRule_pto {x : Rule} : (eRule x).part 5 0 = .int x.pto := rfl
theorem pt_eRule_response {x : Rule} : (eRule x).part 6 0 = ints x.response := rfl
theorem pt_eRule_guards {x : Rule} : (eRule x).part 7 0 = .sl 7 false (x.guards.map eThr) := rfl
theorem pt_eRule_ex {x : Rule} : (eRule x).part 8 0 = ints x.ex := rfl
theorem pt_eRule_all {x : Rule} : (eRule x).part 9 0 = ints x.all := rfl
theorem pt_eRule_read {x : Rule} : (eRule x).part 10 0 = .int x.read := rfl
theorem pt_eRule_write {x : Rule} : (eRule x).part 11 0 = .int x.write := rfl
theorem pt_eRule_send {x : Rule} : (eRule x).part 12 0 = ints x.send := rfl
theorem pt_eRule_pos {x : Rule} : (eRule x).part 13 0 = .int x.pos := rfl
theorem pt_eRule_left {x : Rule} : (eRule x).part 14 0 = ints x.left := rfl
theorem pt_eRule_right {x : Rule} : (eRule x).part 15 0 = ints x.right := rfl
theorem pt_eRule_parent {x : Rule} : (eRule x).part 16 0 = ints x.parent := rfl
theorem pt_eRule_direction {x : Rule} : (eRule x).part 17 0 = .int x.direction := rfl
theorem kd_eRule {x : Rule} : (eRule x).kd = 19 := rfl
theorem st_eRule {x : Rule} {h : Hp} : (eRule x).stOk h = true := rfl
theorem fr_eRule {x : Rule} : (eRule x).free = true := rfl
theorem pt_eProt_name {x : Prot} : (eProt x).part 0 0 = eS x.name := rfl
theorem pt_eProt_topology {x : Prot} : (eProt x).part 1 0 = .int x.topology := rfl
theorem pt_eProt_states {x : Prot} : (eProt x).part 2 0 = strs x.states := rfl
theorem pt_eProt_messages {x : Prot} : (eProt x).part 3 0 = strs x.messages := rfl
theorem pt_eProt_values {x : Prot} : (eProt x).part 4 0 = strs x.values := rfl
theorem pt_eProt_fault {x : Prot} : (eProt x).part 5 0 = .int x.fault := rfl
theorem pt_eProt_resilience {x : Prot} : (eProt x).part 6 0 = .sl 5 false (x.resilience.map eLin) := rfl
theorem pt_eProt_initial {x : Prot} : (eProt x).part 7 0 = ints x.initial := rfl
theorem pt_eProt_leader {x : Prot} : (eProt x).part 8 0 = ints x.leader := rfl
theorem pt_eProt_rules {x : Prot} : (eProt x).part 9 0 = .sl 19 false (x.rules.map eRule) := rfl
theorem kd_eProt {x : Prot} : (eProt x).kd = 11 := rfl
theorem st_eProt {x : Prot} {h : Hp} : (eProt x).stOk h = true := rfl
theorem fr_eProt {x : Prot} : (eProt x).free = true := rfl
theorem pt_eCnt_states {x : Cnt} : (eCnt x).part 0 0 = ints x.states := rfl
theorem pt_eCnt_least {x : Cnt} : (eCnt x).part 1 0 = .int x.least := rfl
theorem kd_eCnt {x : Cnt} : (eCnt x).kd = 3 := rfl
theorem st_eCnt {x : Cnt} {h : Hp} : (eCnt x).stOk h = true := rfl
theorem fr_eCnt {x : Cnt} : (eCnt x).free = true := rfl
theorem pt_eProp_name {x : Prop'} : (eProp x).part 0 0 = eS x.name := rfl
theorem pt_eProp_kind {x : Prop'} : (eProp x).part 1 0 = .int x.kind := rfl
theorem pt_eProp_start {x : Prop'} : (eProp x).part 2 0 = ints x.start := rfl
theorem pt_eProp_bad {x : Prop'} : (eProp x).part 3 0 = .sl 3 false (x.bad.map eCnt) := rfl
theorem pt_eProp_adjacent {x : Prop'} : (eProp x).part 4 0 = ints x.adjacent := rfl
theorem pt_eProp_goal {x : Prop'} : (eProp x).part 5 0 = ints x.goal := rfl
theorem kd_eProp {x : Prop'} : (eProp x).kd = 7 := rfl
theorem st_eProp {x : Prop'} {h : Hp} : (eProp x).stOk h = true := rfl
theorem fr_eProp {x : Prop'} : (eProp x).free = true := rfl
theorem pt_eClause_each {x : Clause} : (eClause x).part 0 0 = .sl 0 false (x.each.map ints) := rfl
theorem pt_eClause_values {x : Clause} : (eClause x).part 1 0 = ints x.values := rfl
theorem pt_eClause_some {x : Clause} : (eClause x).part 2 0 = ints x.some := rfl
theorem kd_eClause {x : Clause} : (eClause x).kd = 4 := rfl
theorem st_eClause {x : Clause} {h : Hp} : (eClause x).stOk h = true := rfl
theorem fr_eClause {x : Clause} : (eClause x).free = true := rfl
theorem pt_eElem_value {x : Elem} : (eElem x).part 0 0 = .int x.value := rfl
theorem pt_eElem_counts {x : Elem} : (eElem x).part 1 0 = ints x.counts := rfl
theorem kd_eElem {x : Elem} : (eElem x).kd = 3 := rfl
theorem st_eElem {x : Elem} {h : Hp} : (eElem x).stOk h = true := rfl
theorem fr_eElem {x : Elem} : (eElem x).free = true := rfl
theorem kd_eS {s : Str} : (eS s).kd = 0 := rfl
theorem st_eS {s : Str} {h : Hp} : (eS s).stOk h = true := rfl
theorem on_eS {s : Str} {h : Hp} : (eS s).oneC h = true := rfl
theorem fr_eS {s : Str} : (eS s).free = true := rfl
end Go.Ab
/-
  The abstract layer, part 22: loops over a list; contracts of functions that write what they are given, in a larger heap.
-/
namespace Go.Ab

/-! ### loops -/

def forget (w : List Nat) (fr : List T) : List T := w.foldl (fun fr i => fr.set i .any) fr
def setL (fr : List T) (l : List (Nat × T)) : List T := l.foldl (fun fr p => fr.set p.1 p.2) fr

/-- A loop over the elements of a list. -/
theorem LoopA.over {P : Program} {b : ACode} {Q : AExit → AS → Prop} {fr : List T} {h : Hp} {nx pn : Nat} {α : Type} (w : List Nat) (l : List α) (vars : List α → List (Nat × T)) (hh : List α → Hp) (nx' : Nat) (inv : List α → Prop) (h0 : inv [])
    (hw : Wk ⟨setL (forget w fr) (vars []), hh [], nx', pn⟩ ⟨fr, h, nx, pn⟩)
    (hnil : inv l → aw P b (fun e s' => match e with | .normal => False | e => Q e s') ⟨setL (forget w fr) (vars l), hh l, nx', pn⟩)
    (hcons : ∀ a x r, l = a ++ x :: r → inv a → aw P b (fun e s' => match e with | .normal => inv (a ++ [x]) ∧ Wk ⟨setL (forget w fr) (vars (a ++ [x])), hh (a ++ [x]), nx', pn⟩ s' | e => Q e s') ⟨setL (forget w fr) (vars a), hh a, nx', pn⟩) :
    LoopA (aw P b) Q ⟨fr, h, nx, pn⟩ := by
  refine LoopA.rule (ι := List α × List α) (fun p => ⟨setL (forget w fr) (vars p.1), hh p.1, nx', pn⟩) (fun p => l = p.1 ++ p.2 ∧ inv p.1) (fun p => p.2.length) ([], l) ⟨rfl, h0⟩ hw ?_
  rintro ⟨a, r⟩ ⟨he, hi⟩
  simp only at he hi
  cases r with
  | nil =>
    rw [List.append_nil] at he
    subst he
    refine aw_mono (fun e s' h => ?_) (hnil hi)
    cases e with
    | normal => exact h.elim
    | exit _ => exact h
    | ret => exact h
  | cons x r =>
    refine aw_mono (fun e s' h => ?_) (hcons a x r he hi)
    cases e with
    | normal => exact ⟨(a ++ [x], r), ⟨⟨by simp [he], h.1⟩, by simp⟩, h.2⟩
    | exit _ => exact h
    | ret => exact h

/-- A loop by a counter and a state. -/
theorem LoopA.upto {P : Program} {b : ACode} {Q : AExit → AS → Prop} {fr : List T} {h : Hp} {nx pn : Nat} (w : List Nat) (m : Nat) (vars : Nat → List (Nat × T)) (hh : Nat → Hp) (nx' : Nat) (inv : Nat → Prop) (h0 : inv 0)
    (hw : Wk ⟨setL (forget w fr) (vars 0), hh 0, nx', pn⟩ ⟨fr, h, nx, pn⟩)
    (hnil : inv m → aw P b (fun e s' => match e with | .normal => False | e => Q e s') ⟨setL (forget w fr) (vars m), hh m, nx', pn⟩)
    (hcons : ∀ i, i < m → inv i → aw P b (fun e s' => match e with | .normal => inv (i + 1) ∧ Wk ⟨setL (forget w fr) (vars (i + 1)), hh (i + 1), nx', pn⟩ s' | e => Q e s') ⟨setL (forget w fr) (vars i), hh i, nx', pn⟩) :
    LoopA (aw P b) Q ⟨fr, h, nx, pn⟩ := by
  refine LoopA.rule (ι := Nat) (fun p => ⟨setL (forget w fr) (vars p), hh p, nx', pn⟩) (fun p => p ≤ m ∧ inv p) (fun p => m - p) 0 ⟨Nat.zero_le _, h0⟩ hw ?_
  rintro i ⟨he, hi⟩
  rcases Nat.lt_or_ge i m with hlt | hge
  · refine aw_mono (fun e s' h => ?_) (hcons i hlt hi)
    cases e with
    | normal => exact ⟨i + 1, ⟨⟨hlt, h.1⟩, by show m - (i + 1) < m - i; omega⟩, h.2⟩
    | exit _ => exact h
    | ret => exact h
  · have : i = m := by omega
    subst this
    refine aw_mono (fun e s' h => ?_) (hnil hi)
    cases e with
    | normal => exact h.elim
    | exit _ => exact h
    | ret => exact h

/-- A loop by a family. -/
theorem LoopA.fam {P : Program} {b : ACode} {Q : AExit → AS → Prop} {fr : List T} {h : Hp} {nx pn : Nat} {ι : Type} (w : List Nat) (vars : ι → List (Nat × T)) (hh : ι → Hp) (nx' : Nat) (inv : ι → Prop) (μ : ι → Nat) (i : ι) (h0 : inv i)
    (hw : Wk ⟨setL (forget w fr) (vars i), hh i, nx', pn⟩ ⟨fr, h, nx, pn⟩)
    (round : ∀ i, inv i → aw P b (fun e s' => match e with | .normal => ∃ j, (inv j ∧ μ j < μ i) ∧ Wk ⟨setL (forget w fr) (vars j), hh j, nx', pn⟩ s' | e => Q e s') ⟨setL (forget w fr) (vars i), hh i, nx', pn⟩) :
    LoopA (aw P b) Q ⟨fr, h, nx, pn⟩ :=
  LoopA.rule (ι := ι) (fun p => ⟨setL (forget w fr) (vars p), hh p, nx', pn⟩) inv μ i h0 hw round

/-! ### heaps -/

/-- Names below nx, elements of their kind. -/
def HpG (nx : Nat) (h : Hp) : Prop := ∀ i ob, h i = some ob → i < nx ∧ T.idsL (· < nx) ob.l ∧ kdB ob.k ob.l = true
theorem HpG_no {nx : Nat} : HpG nx no := fun _ _ h => by cases h
theorem HpG_upd {nx m : Nat} {h : Hp} {ob : Ob} (H : HpG nx h) (h1 : m < nx) (h2 : T.idsL (· < nx) ob.l) (h3 : kdB ob.k ob.l = true) : HpG nx (upd h m (some ob)) := fun i o hi => by
  by_cases he : i = m
  · subst he; simp [upd] at hi; subst hi; exact ⟨h1, h2, h3⟩
  · simp [upd, he] at hi; exact H i o hi
theorem HpG_del {nx m : Nat} {h : Hp} (H : HpG nx h) : HpG nx (upd h m none) := fun i o hi => by
  by_cases he : i = m
  · subst he; simp [upd] at hi
  · simp [upd, he] at hi; exact H i o hi
theorem HpG.mono {nx nx' : Nat} {h : Hp} (H : HpG nx h) (hn : nx ≤ nx') : HpG nx' h := fun i o hi => by
  obtain ⟨h1, h2, h3⟩ := H i o hi
  exact ⟨by omega, T.idsL_weaken (fun _ h => Nat.lt_of_lt_of_le h hn) _ h2, h3⟩

/-- The objects below nx are the same. -/
def HpE (nx : Nat) (h h' : Hp) : Prop := ∀ i, i < nx → h' i = h i
theorem HpE.refl {nx : Nat} {h : Hp} : HpE nx h h := fun _ _ => rfl
theorem HpE_upd {nx m : Nat} {h h' : Hp} {o : Option Ob} (H : HpE nx h h') (hm : nx ≤ m) : HpE nx h (upd h' m o) := fun i hi => by
  have : i ≠ m := by omega
  simp [upd, this]; exact H i hi
theorem HpE_set {nx m : Nat} {h h' : Hp} {o : Option Ob} (H : HpE nx h h') : HpE nx (upd h m o) (upd h' m o) := fun i hi => by
  by_cases he : i = m
  · simp [upd, he]
  · simp [upd, he]; exact H i hi

/-- The objects at a loop's head are there under their names. -/
theorem Wk.same {fr fr' : List T} {h h' : Hp} {nx nx' pn : Nat} (hs : T.subL (fun _ => False) h' fr fr') (hf : T.idsL (· < nx) fr) (hG : HpG nx h) (hE : HpE nx h h') (hn : pn ≤ nx) : Wk ⟨fr, h, nx, pn⟩ ⟨fr', h', nx', pn⟩ := by
  refine ⟨_, .refl _, .inr ⟨fun _ => False, id, ⟨?_, fun i ob hi => ?_, fun i j _ _ e => e, hf, fun i ob hi => ⟨(hG i ob hi).1, (hG i ob hi).2.1⟩, rfl, hn, fun i _ _ => rfl⟩⟩⟩
  · have : T.renL id fr = fr := by
      have : ∀ l : List T, T.renL id l = l := by
        intro l
        induction l with
        | nil => rfl
        | cons t ts ih => simp [T.renL, ih, ren_id]
      exact this fr
    rw [this]; exact hs
  · obtain ⟨h1, h2, h3⟩ := hG i ob hi
    refine ⟨ob, by show h' i = some ob; rw [hE i h1]; exact hi, fun h => h, rfl, rfl, ?_, kdB_of h3⟩
    have : T.renL id ob.l = ob.l := by
      have : ∀ l : List T, T.renL id l = l := by
        intro l
        induction l with
        | nil => rfl
        | cons t ts ih => simp [T.renL, ih, ren_id]
      exact this _
    rw [this]; exact subL_refl _

/-! ### a contract in a larger heap -/

def Ob.ren (ρ : Nat → Nat) (ob : Ob) : Ob := ⟨ob.ty, ob.k, T.renL ρ ob.l⟩

/-- The names of the callee, in the caller. -/
def nameAt (ρ : Nat → Nat) (n0 n : Nat) : Nat → Nat := fun i => if i = n0 then n else ρ i

open Classical in
/-- The heap behind a call: what the callee had, changed; all else as it was. -/
noncomputable def placed (ρ : Nat → Nat) (n0 n : Nat) (h0 h h1 : Hp) : Hp := fun j =>
  if hj : ∃ i, ((h0 i).isSome = true ∨ i = n0) ∧ nameAt ρ n0 n i = j then (h1 hj.choose).map (Ob.ren (nameAt ρ n0 n)) else h j

theorem placed_at {ρ : Nat → Nat} {n0 n : Nat} {h0 h h1 : Hp} (inj : ∀ i j, ((h0 i).isSome = true ∨ i = n0) → ((h0 j).isSome = true ∨ j = n0) → nameAt ρ n0 n i = nameAt ρ n0 n j → i = j) {i : Nat} (hi : (h0 i).isSome = true ∨ i = n0) :
    placed ρ n0 n h0 h h1 (nameAt ρ n0 n i) = (h1 i).map (Ob.ren (nameAt ρ n0 n)) := by
  have hx : ∃ i', ((h0 i').isSome = true ∨ i' = n0) ∧ nameAt ρ n0 n i' = nameAt ρ n0 n i := ⟨i, hi, rfl⟩
  unfold placed
  rw [dif_pos hx]
  rw [inj _ _ hx.choose_spec.1 hi hx.choose_spec.2]
theorem placed_off {ρ : Nat → Nat} {n0 n : Nat} {h0 h h1 : Hp} {j : Nat} (hj : ¬ ∃ i, ((h0 i).isSome = true ∨ i = n0) ∧ nameAt ρ n0 n i = j) : placed ρ n0 n h0 h h1 j = h j := by
  unfold placed; rw [dif_neg hj]

mutual
theorem ids_ren {ρ : Nat → Nat} {M : Nat → Prop} : (t : T) → t.ids (fun i => M (ρ i)) → (t.ren ρ).ids M
  | .lit _, _ => by simp [T.ren, T.ids]
  | .agg l, h => by simp only [T.ren, T.ids] at h ⊢; exact idsL_ren l h
  | .sl _ _ _, _ => by simp [T.ren, T.ids]
  | .ref _ _, _ => by simp [T.ren, T.ids]
  | .own _, h => by simpa [T.ren, T.ids] using h
  | .ptr _ _ _, h => by simpa [T.ren, T.ids] using h
  | .ovw _ _ _, h => by simpa [T.ren, T.ids] using h
  | .fn f l, h => by simp only [T.ren, T.ids] at h ⊢; exact idsL_ren l h
  | .tup l, h => by simp only [T.ren, T.ids] at h ⊢; exact idsL_ren l h
  | .any, _ => by simp [T.ren, T.ids]
theorem idsL_ren {ρ : Nat → Nat} {M : Nat → Prop} : (l : List T) → T.idsL (fun i => M (ρ i)) l → T.idsL M (T.renL ρ l)
  | [], _ => by simp [T.renL, T.idsL]
  | t :: ts, h => by simp only [T.renL, T.idsL] at h ⊢; exact ⟨ids_ren t h.1, idsL_ren ts h.2⟩
end

mutual
/-- What stands for a value under the callee's names stands for the renamed one. -/
theorem repC_back {E E0 : Env} {ρ : Nat → Nat} {M : Nat → Prop} (hS : ∀ b, E0.S b → E.S b) (hw : ∀ b, E0.S b → E.w.heap[b]? = E0.w.heap[b]?) (hi' : ∀ i, M i → (E.h (ρ i)).isSome = true → (E0.h i).isSome = true ∧ E.φ (ρ i) = E0.φ i ∧ E.κ (ρ i) = E0.κ i) :
    (t : T) → t.ids M → (vs : List Value) → repC E0 t vs → repC E (t.ren ρ) vs
  | .lit v, _, vs, H => by simpa [repC, T.ren] using H
  | .agg l, hm, vs, H => by simp only [repC, T.ren, T.ids] at H hm ⊢; exact repCL_back hS hw hi' l hm vs H
  | .sl k f l, _, vs, H => by
    simp only [repC, T.ren] at H ⊢
    obtain ⟨a, c, h1, h2, h3, h4⟩ := H
    refine ⟨a, c, h1, h2, h3, ?_⟩
    rcases h4 with h4 | ⟨b, off, cur, e, m, ha, hb, hh, hf, hr⟩
    · exact .inl h4
    · exact .inr ⟨b, off, cur, e, m, ha, hS b hb, by rw [hw b hb]; exact hh, hf, repRows_mono (E := E0) (E' := E) l k _ ⟨hS, hw, fun _ hf => hf.elim⟩ hf _ hr⟩
  | .ref k t, _, vs, H => by
    simp only [repC, T.ren] at H ⊢
    obtain ⟨b, off, cur, e, m, h1, hb, hh, hk, hf, hl', hr⟩ := H
    exact ⟨b, off, cur, e, m, h1, hS b hb, by rw [hw b hb]; exact hh, hk, hf, hl', repC_mono (E := E0) (E' := E) t _ ⟨hS, hw, fun _ hf => hf.elim⟩ hf _ hr⟩
  | .own i, hm, vs, H => by
    simp only [repC, T.ren, T.ids] at H hm ⊢
    obtain ⟨u, h1, h2⟩ := H
    exact ⟨u, h1, fun hd => by obtain ⟨g1, g2, _⟩ := hi' i hm hd; rw [g2]; exact h2 g1⟩
  | .ptr i j off, hm, vs, H => by
    simp only [repC, T.ren, T.ids] at H hm ⊢
    obtain ⟨u, h1, h2⟩ := H
    exact ⟨u, h1, fun hd => by obtain ⟨g1, g2, g3⟩ := hi' i hm hd; rw [g2, g3]; exact h2 g1⟩
  | .ovw i lo hi, hm, vs, H => by
    simp only [repC, T.ren, T.ids] at H hm ⊢
    obtain ⟨u, h1, h2⟩ := H
    exact ⟨u, h1, fun hd => by obtain ⟨g1, g2, g3⟩ := hi' i hm hd; rw [g2, g3]; exact h2 g1⟩
  | .fn f cap, hm, vs, H => by
    simp only [repC, T.ren, T.ids] at H hm ⊢
    obtain ⟨cs, h1, h2⟩ := H
    exact ⟨cs, h1, repCL_back hS hw hi' cap hm _ h2⟩
  | .tup l, hm, vs, H => by
    simp only [repC, T.ren, T.ids] at H hm ⊢
    obtain ⟨cs, h1, h2⟩ := H
    exact ⟨cs, h1, repVL_back hS hw hi' l hm _ h2⟩
  | .any, _, vs, H => by simp [repC, T.ren]
theorem repCL_back {E E0 : Env} {ρ : Nat → Nat} {M : Nat → Prop} (hS : ∀ b, E0.S b → E.S b) (hw : ∀ b, E0.S b → E.w.heap[b]? = E0.w.heap[b]?) (hi' : ∀ i, M i → (E.h (ρ i)).isSome = true → (E0.h i).isSome = true ∧ E.φ (ρ i) = E0.φ i ∧ E.κ (ρ i) = E0.κ i) :
    (l : List T) → T.idsL M l → (vs : List Value) → repCL E0 l vs → repCL E (T.renL ρ l) vs
  | [], _, vs, H => by simpa [repCL, T.renL] using H
  | t :: ts, hm, vs, H => by
    simp only [repCL, T.renL, T.idsL] at H hm ⊢
    obtain ⟨hk, v, r, h1, h0, h2, h3⟩ := H
    exact ⟨by rw [ren_kd]; exact hk, v, r, h1, h0, repC_back hS hw hi' t hm.1 _ h2, repCL_back hS hw hi' ts hm.2 _ h3⟩
theorem repVL_back {E E0 : Env} {ρ : Nat → Nat} {M : Nat → Prop} (hS : ∀ b, E0.S b → E.S b) (hw : ∀ b, E0.S b → E.w.heap[b]? = E0.w.heap[b]?) (hi' : ∀ i, M i → (E.h (ρ i)).isSome = true → (E0.h i).isSome = true ∧ E.φ (ρ i) = E0.φ i ∧ E.κ (ρ i) = E0.κ i) :
    (l : List T) → T.idsL M l → (vs : List Value) → repVL E0 l vs → repVL E (T.renL ρ l) vs
  | [], _, vs, H => by simpa [repVL, T.renL] using H
  | t :: ts, hm, vs, H => by
    simp only [repVL, T.renL, T.idsL] at H hm ⊢
    obtain ⟨v, r, h1, h2, h3⟩ := H
    refine ⟨v, r, h1, ?_, repVL_back hS hw hi' ts hm.2 _ h3⟩
    rcases h2 with ⟨hk, cs, h4, h5⟩ | ⟨hk, h4⟩
    · exact .inl ⟨by rw [ren_kd]; exact hk, cs, h4, repC_back hS hw hi' t hm.1 _ h5⟩
    · exact .inr ⟨by rw [ren_kd]; exact hk, repC_back hS hw hi' t hm.1 _ h4⟩
end

theorem repRows_back {E E0 : Env} {ρ : Nat → Nat} {M : Nat → Prop} (hS : ∀ b, E0.S b → E.S b) (hw : ∀ b, E0.S b → E.w.heap[b]? = E0.w.heap[b]?) (hi : ∀ i, M i → (E.h (ρ i)).isSome = true → (E0.h i).isSome = true ∧ E.φ (ρ i) = E0.φ i ∧ E.κ (ρ i) = E0.κ i) {k : Nat} :
    ∀ (l : List T), T.idsL M l → ∀ (vs : List Value), repRows E0 k l vs → repRows E k (T.renL ρ l) vs := by
  intro l
  induction l with
  | nil => intro _ vs _; simp [repRows, T.renL]
  | cons t ts ih =>
    intro hm vs H
    simp only [repRows, T.renL, T.idsL] at H hm ⊢
    obtain ⟨h1, h2, h3, h4, h5⟩ := H
    exact ⟨by rw [ren_kd]; exact h1, h2, h3, repC_back hS hw hi t hm.1 _ h4, ih hm.2 _ h5⟩

theorem repEnt_back {E E0 : Env} {ρ : Nat → Nat} {M : Nat → Prop} (hS : ∀ b, E0.S b → E.S b) (hw : ∀ b, E0.S b → E.w.heap[b]? = E0.w.heap[b]?) (hi : ∀ i, M i → (E.h (ρ i)).isSome = true → (E0.h i).isSome = true ∧ E.φ (ρ i) = E0.φ i ∧ E.κ (ρ i) = E0.κ i) :
    ∀ (l : List T), T.idsL M l → ∀ (es : List MapEntry), repEnt E0 l es → repEnt E (T.renL ρ l) es := by
  intro l
  induction l with
  | nil => intro _ vs H; simpa [repEnt, T.renL] using H
  | cons t ts ih =>
    intro hm vs H
    simp only [repEnt, T.renL, T.idsL] at H hm ⊢
    obtain ⟨n, u, e, r, rfl, rfl, h1, h2, h3, h4, h5⟩ := H
    simp only [T.ids, T.idsL] at hm
    exact ⟨n, u.ren ρ, e, r, by simp [T.ren, T.renL], rfl, h1, by rw [ren_kd]; exact h2, h3, repC_back hS hw hi u hm.1.2.1 _ h4, ih hm.2 _ h5⟩

theorem ObOk.back {E E0 : Env} {ρ : Nat → Nat} {M : Nat → Prop} (hS : ∀ b, E0.S b → E.S b) (hw : ∀ b, E0.S b → E.w.heap[b]? = E0.w.heap[b]?) (hi : ∀ i, M i → (E.h (ρ i)).isSome = true → (E0.h i).isSome = true ∧ E.φ (ρ i) = E0.φ i ∧ E.κ (ρ i) = E0.κ i)
    (hww : E.w = E0.w) {ob : Ob} (hm : T.idsL M ob.l) {v : Value} (H : ObOk E0 ob v) : ObOk E (ob.ren ρ) v := by
  rcases H with ⟨hk, ⟨a, h1, h2⟩ | ⟨g, c, cur, h1, h2, h3, h4, h5, h6⟩⟩ | ⟨hk, g, es, cl, h1, h2, h3⟩
  · exact .inl ⟨hk, .inl ⟨a, h1, by simp [Ob.ren, h2, T.renL]⟩⟩
  · exact .inl ⟨hk, .inr ⟨g, c, cur, by simp only [Ob.ren, renL_length]; exact h1, by simp only [Ob.ren, renL_length]; exact h2, h3, by rw [hww]; exact h4, h5, repRows_back hS hw hi _ hm _ h6⟩⟩
  · exact .inr ⟨hk, g, es, cl, h1, by rw [hww]; exact h2, repEnt_back hS hw hi _ hm _ h3⟩
end Go.Ab
