/-
  A part of the proof. No condition.
-/
import Derived.Test.YtgokbcjkbdabnaaGreatDoorRb
import Derived.Test.YtgokbcjkbdabnaaGreatDoorKa
import Derived.Test.YtgokbcjkbdabnaaGreatDoorLg
namespace Go.Proofs.YtgokbcjkbdabnaaGreatDoor
open Go.Ab Go.Proofs
set_option maxRecDepth 100000
/-! ### small functions over lists of numbers -/
def findI (s : Int) : List Int → Nat → Int
  | [], _ => -1
  | x :: r, i => bif s == x then (i : Int) else findI s r (i + 1)
theorem findI_ge {s : Int} {l : List Int} : decide (0 ≤ findI s l 0) = l.any fun x => s == x := by
  have : ∀ {l : List Int} {i : Nat}, 0 ≤ findI s l i ↔ (l.any fun x => s == x) = true := by
    intro l
    induction l with
    | nil => intro i; simp [findI]
    | cons x r ih =>
      intro i
      rw [List.any_cons, Bool.or_eq_true, ← ih (i := i + 1)]
      show (0 : Int) ≤ (bif s == x then (i : Int) else findI s r (i + 1)) ↔ _
      generalize (s == x) = b
      cases b <;> simp
  rw [Bool.eq_iff_iff, decide_eq_true_eq]; exact this
theorem S.slices_Index_int (l : List Int) (s : Int) (f : Bool) (hl : l.length < 2^40) : SpecZ Tryz.prog F.slices_Index_Lint_int [.row 0 f (.ints l), .int s] (.int (findI s l 0)) := by
  refine SpecZ.of Bd.slices_Index_Lint_int (by simp) rfl rfl ?_
  conv => whnf
  refine LoopZ.same [0, 1, 6, 7] (fun i : Nat => [(8, .int i)]) (fun i => i ≤ l.length ∧ findI s l 0 = findI s (l.drop i) i) (fun i => l.length - i) 0 rfl (by decide) rfl (fun _ => rfl) ⟨by omega, by simp⟩ ⟨⟨_, rfl, rfl⟩, trivial⟩ ?_
  conv => whnf
  refine ⟨rfl, ?_⟩
  rintro i ⟨hi, hall⟩
  conv => whnf
  refine Fork.mk (fun h3 => ?_) (fun h3 => ?_)
  · have hi' : i < l.length := by simpa using h3
    rw [drop_getD 0 hi'] at hall
    simp only [findI] at hall
    conv => whnf
    refine VC.mk (by simp only [okI, Rw.rng] at *; first | omega | (simp_all; done) | (simp_all; omega)) ?_
    conv => whnf
    refine Fork.mk (fun h4 => ?_) (fun h4 => ?_)
    · conv => whnf
      refine EndZ.int ?_
      have h4' : (s == l.getD i 0) = true := h4
      rw [hall, h4']; rfl
    · conv => whnf
      refine VC.mk (by simp only [okI, Rw.rng] at *; first | omega | (simp_all; done) | (simp_all; omega)) ?_
      conv => whnf
      refine ⟨i + 1, ⟨by omega, ?_⟩, by omega, ⟨⟨_, rfl, rfl⟩, trivial⟩, ?_, rfl⟩
      · have h4' : (s == l.getD i 0) = false := h4
        rw [hall, h4']; rfl
      · repeat' (first | exact trivial | exact ⟨_, rfl, rfl⟩ | apply And.intro)
  · conv => whnf
    refine EndZ.int ?_
    have hi' : l.length ≤ i := by simpa using h3
    rw [hall, List.drop_eq_nil_of_le hi']; rfl
/-- Is the number in the list? -/
def inI (l : List Int) (s : Int) : Bool := l.any fun x => s == x
theorem S.slices_Contains_int (l : List Int) (s : Int) (f : Bool) (hl : l.length < 2^40) : SpecZ Tryz.prog F.slices_Contains_Lint_int [.row 0 f (.ints l), .int s] (.bool (inI l s)) := by
  refine SpecZ.of Bd.slices_Contains_Lint_int (by simp) rfl rfl ?_
  conv => whnf
  refine CallZ.pure (S.slices_Index_int l s f hl) rfl ?_
  conv => whnf
  exact EndZ.bool findI_ge.symm
/-- Every number of the list is a place. -/
def placeI (n : Nat) (l : List Int) : Prop := ∀ q ∈ l, 0 ≤ q ∧ q < n
end Go.Proofs.YtgokbcjkbdabnaaGreatDoor
namespace Go.Proofs.YtgokbcjkbdabnaaGreatDoor
open Go.Ab Go.Proofs
set_option maxRecDepth 100000
/-- What the program asks of the held states. -/
def foundB (ex c : List Int) (i : Nat) : Bool := ((ex.length : Int) == 0) || (List.range i).any fun j => !(c.getD j 0 == 0) && inI ex j
def blockB (al c : List Int) (i : Nat) : Bool := (List.range i).any fun j => !(c.getD j 0 == 0) && (decide ((al.length : Int) > 0) && !(inI al j))
def allowB (r : Rule) (c : List Int) : Bool := !(blockB r.all c c.length) && foundB r.ex c c.length
theorem found_next {ex c : List Int} {i : Nat} : foundB ex c (i + 1) = (foundB ex c i || (!(c.getD i 0 == 0) && inI ex i)) := by
  simp only [foundB, List.range_succ, List.any_append, List.any_cons, List.any_nil, Bool.or_false, Bool.or_assoc]
theorem block_next {al c : List Int} {i : Nat} : blockB al c (i + 1) = (blockB al c i || (!(c.getD i 0 == 0) && (decide ((al.length : Int) > 0) && !(inI al i)))) := by
  simp only [blockB, List.range_succ, List.any_append, List.any_cons, List.any_nil, Bool.or_false]
theorem block_of {al c : List Int} {i : Nat} (hi : i < c.length) (h0 : (c.getD i 0 == 0) = false) (h : (decide ((al.length : Int) > 0) && !(inI al i)) = true) : blockB al c c.length = true :=
  any_range.2 ⟨i, hi, by rw [h0, h]; rfl⟩
theorem S.cover_allowed (r : Rule) (c : List Int) (f : Bool) (hr : SmallR r) (hc : c.length < 2^40) : SpecZ Tryz.prog F.cover_allowed [.dat (.rule r), .row 0 f (.ints c)] (.bool (allowB r c)) := by
  have g1 := hr.ex; have g2 := hr.all
  refine SpecZ.of Bd.cover_allowed (by simp) rfl rfl ?_
  conv => whnf
  refine LoopZ.same [2, 12, 13] (fun i : Nat => [(14, .int i), (5, .bool (foundB r.ex c i))]) (fun i => i ≤ c.length ∧ blockB r.all c i = false) (fun i => c.length - i) 0 rfl (by decide) rfl (fun _ => rfl) ⟨by omega, rfl⟩ ⟨⟨_, rfl, rfl⟩, ⟨_, rfl, ?_⟩, trivial⟩ ?_
  · show (V.bool (foundB r.ex c 0)).toT = (V.bool ((r.ex.length : Int) == 0)).toT
    rw [foundB]; simp
  conv => whnf
  refine ⟨rfl, ?_⟩
  rintro i ⟨hi, hall⟩
  conv => whnf
  refine Fork.mk (fun h3 => ?_) (fun h3 => ?_)
  · have hi' : i < c.length := by simpa using h3
    conv => whnf
    refine VC.mk (by simp only [okI, Rw.rng] at *; first | omega | (simp_all; done) | (simp_all; omega)) ?_
    conv => whnf
    refine Fork.mk (fun h4 => ?_) (fun h4 => ?_)
    · replace h4 : (c.getD i 0 == 0) = true := h4
      conv => whnf
      refine VC.mk (by simp only [okI, Rw.rng] at *; first | omega | (simp_all; done) | (simp_all; omega)) ?_
      conv => whnf
      refine ⟨i + 1, ⟨by omega, by rw [block_next, hall, h4]; rfl⟩, by omega, ⟨⟨_, rfl, rfl⟩, ⟨_, rfl, ?_⟩, trivial⟩, ?_, rfl⟩
      · rw [found_next, h4]; simp [V.toT, cndV]
      · repeat' (first | exact trivial | exact ⟨_, rfl, rfl⟩ | apply And.intro)
    · replace h4 : (c.getD i 0 == 0) = false := h4
      conv => whnf
      repeat (refine VC.mk (by first | exact fun h => h | exact fun h => ⟨h, h⟩) ?_; conv => whnf)
      refine CallZ.pureG (fun _ => S.slices_Contains_int r.ex i false (by omega)) rfl ?_
      conv => whnf
      repeat (refine VC.mk (by first | exact fun h => h | exact fun h => ⟨h, h⟩ | (intro h; rw [h]; rfl)) ?_; conv => whnf)
      refine CallZ.pureG (fun _ => S.slices_Contains_int r.all i false (by omega)) rfl ?_
      conv => whnf
      repeat (refine VC.mk (by exact fun h => h) ?_; conv => whnf)
      refine Fork.mk (fun h5 => ?_) (fun h5 => ?_)
      · conv => whnf
        exact EndZ.bool (by rw [allowB, block_of hi' h4 h5]; rfl)
      · conv => whnf
        refine VC.mk (by simp only [okI, Rw.rng] at *; first | omega | (simp_all; done) | (simp_all; omega)) ?_
        conv => whnf
        refine ⟨i + 1, ⟨by omega, by rw [block_next, hall, h4]; simpa using h5⟩, by omega, ⟨⟨_, rfl, rfl⟩, ⟨_, rfl, ?_⟩, trivial⟩, ?_, rfl⟩
        · rw [found_next, h4]; simp [V.toT, cndV]
        · repeat' (first | exact trivial | exact ⟨_, rfl, rfl⟩ | apply And.intro)
  · have hi' : c.length ≤ i := by simpa using h3
    have e : i = c.length := Nat.le_antisymm hi hi'
    subst e
    conv => whnf
    exact EndZ.bool (by rw [allowB, hall]; rfl)
end Go.Proofs.YtgokbcjkbdabnaaGreatDoor
namespace Go.Proofs.YtgokbcjkbdabnaaGreatDoor
open Go.Ab Go.Proofs
set_option maxRecDepth 100000
/-- A rule's places lie among n states. -/
structure PlaceR (n : Nat) (r : Rule) : Prop where
  src : 0 ≤ r.fr ∧ r.fr < n
  dst : 0 ≤ r.to ∧ r.to < n
  psrc : 0 ≤ r.pfrom ∧ r.pfrom < n
  pdst : 0 ≤ r.pto ∧ r.pto < n
  rsp : r.kind = 3 → r.response.length = n ∧ placeI n r.response
  exs : placeI n r.ex
/-- Numbers that are not too large. -/
def okC (c : List Int) : Prop := ∀ x ∈ c, 0 ≤ x ∧ x ≤ 1048576
def addAt (c : List Int) (i d : Int) : List Int := c.set i.toNat (c.getD i.toNat 0 + d)
def decAt (c : List Int) (i : Int) : List Int := c.set i.toNat (c.getD i.toNat 0 - 1)
/-- Where the others go. -/
def respC (r : Rule) (c : List Int) (i : Nat) : List Int := (List.range i).foldl (fun a j => addAt a (r.response.getD j 0) (c.getD j 0)) (List.replicate c.length 0)
/-- The element to which a step with a rule leads, if there is such a step. -/
def fireO (r : Rule) (e : Elem) : Option Elem :=
  let c1 := decAt e.counts r.fr
  let out (c : List Int) : Option Elem := some ⟨bif decide (r.write ≥ 0) then r.write else e.value, addAt c r.to 1⟩
  bif (decide (0 ≤ r.read) && e.value != r.read || e.counts.getD r.fr.toNat 0 == 0) then none else
  bif r.kind == 1 then (bif !(allowB r c1) then none else out c1) else
  bif r.kind == 2 then (bif c1.getD r.pfrom.toNat 0 == 0 then none else out (addAt (decAt c1 r.pfrom) r.pto 1)) else
  bif r.kind == 3 then out (respC r c1 c1.length) else out c1
def fireV (r : Rule) (e : Elem) : V := match fireO r e with
  | none => .tup [.agg [.int 0, .row 0 true .nil], .bool false]
  | some x => .tup [.dat (.elem x), .bool true]
theorem fireV_free (r : Rule) (e : Elem) : (fireV r e).free = true := by
  unfold fireV; cases fireO r e <;> rfl
/-- The same, an element in any case. -/
def fireW (r : Rule) (e : Elem) : V := .tup [.dat (.elem ((fireO r e).getD ⟨0, []⟩)), .bool (fireO r e).isSome]
theorem fireW_sub {Z : Nat → Prop} {h : Hp} (r : Rule) (e : Elem) : T.sub Z h (fireW r e).toT (fireV r e).toT := by
  unfold fireW fireV
  cases fireO r e with
  | none =>
    show T.sub Z h (.tup [.agg [.int 0, .sl 0 false []], .bool false]) (.tup [.agg [.int 0, .sl 0 true []], .bool false])
    simp [T.sub, T.subL]
  | some x => exact sub_refl _
theorem SpecZ.fireW {f : FuncId} {r : Rule} {e : Elem} (S : SpecZ Tryz.prog f [.dat (.rule r), .dat (.elem e)] (fireV r e)) : SpecZ Tryz.prog f [.dat (.rule r), .dat (.elem e)] (fireW r e) :=
  AFn.shut S (fun _ => fireW_sub r e) rfl
theorem okC.get {c : List Int} (h : okC c) {i : Nat} (hi : i < c.length) : 0 ≤ c.getD i 0 ∧ c.getD i 0 ≤ 1048576 := by
  rw [show c.getD i 0 = c[i] by simp [hi]]; exact h _ (List.getElem_mem hi)
theorem lendI {h : Hz} {j : Nat} {Z : Nat → Prop} {l : List Int} (hz : Z j) (q : h.get j = some (.row Y.int 0 (.ints l) [])) : T.sub Z h.toHp (V.row 0 false (.ints l)).toT (V.own j).toT := by
  show T.sub Z h.toHp (.sl 0 false (l.map T.int)) (.own j)
  simp only [T.sub]
  refine ⟨trivial, hz, ?_, by decide, Y.int, ?_⟩
  · rw [freeL_iff]; intro t ht; obtain ⟨x, _, rfl⟩ := List.mem_map.1 ht; rfl
  · have := toHp_some q
    rw [this]; simp [OV.toOb, Rw.toL, V.toL]
/-- Numbers between -b and b. -/
def okB (b : Int) (c : List Int) : Prop := ∀ x ∈ c, -b ≤ x ∧ x ≤ b
theorem okB.get {b : Int} {c : List Int} (h : okB b c) (hb : 0 ≤ b) (i : Nat) : -b ≤ c.getD i 0 ∧ c.getD i 0 ≤ b := by
  by_cases hi : i < c.length
  · rw [show c.getD i 0 = c[i] by simp [hi]]; exact h _ (List.getElem_mem hi)
  · rw [show c.getD i 0 = 0 by simp [List.getD_eq_getElem?_getD, List.getElem?_eq_none (by omega : c.length ≤ i)]]; omega
theorem okB.add {b k : Int} {c : List Int} (h : okB b c) (hb : 0 ≤ b) (i d : Int) (hd : -k ≤ d ∧ d ≤ k) : okB (b + k) (addAt c i d) := by
  intro x hx
  have hk : 0 ≤ k := by omega
  rcases List.mem_or_eq_of_mem_set hx with hx | rfl
  · have := h x hx; omega
  · have := h.get hb i.toNat; omega
theorem okB.dec {b : Int} {c : List Int} (h : okB b c) (hb : 0 ≤ b) (i : Int) : okB (b + 1) (decAt c i) := by
  have := h.add hb i (-1) (k := 1) ⟨by omega, by omega⟩
  rw [show decAt c i = addAt c i (-1) by simp only [decAt, addAt]; rfl]; exact this
theorem okC.b {c : List Int} (h : okC c) : okB 1048576 c := fun x hx => by have := h x hx; omega
/-- An element whose numbers are an own row. -/
theorem EndZ.elemT {h : Hz} {j : Nat} {v : Int} {l : List Int} (q : h.get j = some (.row Y.int 0 (.ints l) [])) : EndZ (.tup [.dat (.elem ⟨v, l⟩), .bool true]) (.tup [.agg [.int v, .own j], .bool true]) h := ⟨by
  show T.sub (fun _ => True) h.toHp (.tup [.agg [.int v, .sl 0 false (l.map T.int)], .bool true]) (.tup [.agg [.int v, .own j], .bool true])
  have := lendI (Z := fun _ => True) trivial q
  replace this : T.sub (fun _ => True) h.toHp (.sl 0 false (l.map T.int)) (.own j) := this
  simp only [T.sub] at this
  simp only [T.sub, T.subL]
  exact ⟨⟨trivial, this, trivial⟩, trivial, trivial⟩⟩
theorem makeInts {n : Nat} (h : 0 < n) : (bif isZero (.int n) then some Rw.nil else repR (n : Int).toNat (T.int 0)) = some (.ints (List.replicate n 0)) := by
  cases n with
  | zero => omega
  | succ k => rfl
theorem resp_next {r : Rule} {c : List Int} {i : Nat} : respC r c (i + 1) = addAt (respC r c i) (r.response.getD i 0) (c.getD i 0) := by
  simp only [respC, List.range_succ, List.foldl_append, List.foldl_cons, List.foldl_nil]
theorem resp_len {r : Rule} {c : List Int} {i : Nat} : (respC r c i).length = c.length := by
  induction i with
  | zero => simp [respC]
  | succ i ih => rw [resp_next]; simp [addAt, ih]
theorem resp_b {r : Rule} {c : List Int} {b : Int} (h : okB b c) (hb : 0 ≤ b) (i : Nat) : okB (i * b) (respC r c i) := by
  induction i with
  | zero => intro x hx; simp [respC] at hx; omega
  | succ i ih =>
    rw [resp_next]
    have h0 : 0 ≤ (i : Int) * b := Int.mul_nonneg (by omega) hb
    have := ih.add h0 (r.response.getD i 0) (c.getD i 0) (k := b) (h.get hb i)
    rw [show ((i + 1 : Nat) : Int) * b = i * b + b by rw [Int.natCast_add, Int.add_mul]; simp]; exact this
abbrev rowI (l : List Int) : OV := .row Y.int 0 (.ints l) []
theorem S.cover_after (r : Rule) (e : Elem) (hr : SmallR r) (hp : PlaceR e.counts.length r) (hc : okC e.counts) (hl : e.counts.length ≤ 6) : SpecZ Tryz.prog F.cover_after [.dat (.rule r), .dat (.elem e)] (fireV r e) := by
  obtain ⟨f1, f2⟩ := hp.src
  obtain ⟨d1, d2⟩ := hp.dst
  obtain ⟨p1, p2⟩ := hp.psrc
  obtain ⟨q1, q2⟩ := hp.pdst
  have hfr := hc.get (i := r.fr.toNat) (by omega)
  refine SpecZ.of Bd.cover_after (by simp) rfl (fireV_free r e) ?_
  conv => whnf
  repeat (refine VC.mk (by first | exact fun h => h | exact fun h => ⟨h, h⟩ | (intro h; rw [h]; rfl) | (intro h; (repeat' apply And.intro) <;> first | exact h | omega | (simp only [Rw.rngE]; omega) | (simp only [Rw.rng]; omega))) ?_; conv => whnf)
  refine Fork.mk (fun h1 => ?_) (fun h1 => ?_)
  · conv => whnf
    refine EndZ.eqv ?_
    rw [fireV, fireO, h1]; rfl
  have hl1 : (decAt e.counts r.fr).length = e.counts.length := by simp [decAt]
  conv => whnf
  repeat (refine VC.mk (by first | (simp only [capOk, lenRX, Rw.len, List.length_append, List.length_nil]; omega) | (simp only [okI, Rw.rng] at *; first | omega | (simp_all; done) | (simp_all; omega))) ?_; conv => whnf)
  refine Fork.mk (fun h2 => ?_) (fun h2 => ?_)
  · conv => whnf
    refine CallZ.lend (S.cover_allowed r (decAt e.counts r.fr) false hr (by omega)) (And.intro (sub_refl _) (And.intro (lendI trivial rfl) trivial)) rfl rfl ?_
    conv => whnf
    refine Fork.mk (fun h3 => ?_) (fun h3 => ?_)
    · conv => whnf
      refine EndZ.eqv ?_
      rw [fireV, fireO, h1, h2, h3]; rfl
    have hB := hc.b.dec (by omega) r.fr
    have hB1 := hB.get (by omega) r.to.toNat
    conv => whnf
    repeat (refine VC.mk (by first | (simp only [Rw.rng, List.length_set]; omega) | (simp only [okI, decAt, addAt] at *; omega)) ?_; conv => whnf)
    refine Fork.mk (fun h4 => ?_) (fun h4 => ?_)
    · replace h4 : decide (r.write ≥ 0) = true := h4
      have hS : fireV r e = .tup [.dat (.elem ⟨r.write, addAt (decAt e.counts r.fr) r.to 1⟩), .bool true] := by rw [fireV, fireO, h1, h2, h3, h4]; rfl
      conv => whnf
      rw [hS]
      exact EndZ.elemT rfl
    · replace h4 : decide (r.write ≥ 0) = false := h4
      have hS : fireV r e = .tup [.dat (.elem ⟨e.value, addAt (decAt e.counts r.fr) r.to 1⟩), .bool true] := by rw [fireV, fireO, h1, h2, h3, h4]; rfl
      conv => whnf
      rw [hS]
      exact EndZ.elemT rfl
  conv => whnf
  refine Fork.mk (fun h5 => ?_) (fun h5 => ?_)
  · have hB := hc.b.dec (by omega) r.fr
    have hB1 := hB.get (by omega) r.pfrom.toNat
    have hB2 := hB.dec (by omega) r.pfrom
    have hB3 := hB2.get (by omega) r.pto.toNat
    have hB4 := hB2.add (by omega) r.pto 1 (k := 1) ⟨by omega, by omega⟩
    have hB5 := hB4.get (by omega) r.to.toNat
    conv => whnf
    repeat (refine VC.mk (by first | (simp only [Rw.rng, List.length_set]; omega) | (simp only [okI, decAt, addAt] at *; omega)) ?_; conv => whnf)
    refine Fork.mk (fun h6 => ?_) (fun h6 => ?_)
    · replace h6 : ((decAt e.counts r.fr).getD r.pfrom.toNat 0 == 0) = true := h6
      conv => whnf
      refine EndZ.eqv ?_
      rw [fireV, fireO, h1, h2, h5, h6]; rfl
    · replace h6 : ((decAt e.counts r.fr).getD r.pfrom.toNat 0 == 0) = false := h6
      conv => whnf
      repeat (refine VC.mk (by first | (simp only [Rw.rng, List.length_set]; omega) | (simp only [okI, decAt, addAt] at *; omega)) ?_; conv => whnf)
      refine Fork.mk (fun h4 => ?_) (fun h4 => ?_)
      · replace h4 : decide (r.write ≥ 0) = true := h4
        have hS : fireV r e = .tup [.dat (.elem ⟨r.write, addAt (addAt (decAt (decAt e.counts r.fr) r.pfrom) r.pto 1) r.to 1⟩), .bool true] := by rw [fireV, fireO, h1, h2, h5, h6, h4]; rfl
        conv => whnf
        rw [hS]
        exact EndZ.elemT rfl
      · replace h4 : decide (r.write ≥ 0) = false := h4
        have hS : fireV r e = .tup [.dat (.elem ⟨e.value, addAt (addAt (decAt (decAt e.counts r.fr) r.pfrom) r.pto 1) r.to 1⟩), .bool true] := by rw [fireV, fireO, h1, h2, h5, h6, h4]; rfl
        conv => whnf
        rw [hS]
        exact EndZ.elemT rfl
  conv => whnf
  refine Fork.mk (fun h6 => ?_) (fun h6 => ?_)
  · have hB := hc.b.dec (by omega) r.fr
    obtain ⟨rs1, rs2⟩ := hp.rsp (beq_iff_eq.1 h6)
    conv => whnf
    have hm := makeInts (n := (decAt e.counts r.fr).length) (by omega)
    simp only [decAt] at hm
    rw [hm]
    conv => whnf
    refine VC.mk (by simp only [List.length_set]; omega) ?_
    conv => whnf
    refine LoopZ.objs 60 [2, 3, 4, 78, 79] (fun i : Nat => [(80, .int i), (7, .own 45)]) (fun i => [(0, .box Y.api_Rule 19 (.dat (.rule r))), (1, .box Y.api_Element 3 (.dat (.elem e))), (2, .box Y.api_Element 3 (.agg [.int 0, .row 0 true .nil])), (25, rowI (decAt e.counts r.fr)), (45, rowI (respC r (decAt e.counts r.fr) i))]) (fun i => i ≤ (decAt e.counts r.fr).length) (fun i => (decAt e.counts r.fr).length - i) 0 [0, 1, 2, 25, 45] rfl (by decide) (fun _ => rfl) (Nat.zero_le _) ?_ ?_ ?_
    · exact ⟨⟨_, rfl, .eq rfl⟩, ⟨_, rfl, .eq rfl⟩, trivial⟩
    · exact ⟨⟨rfl, (fun h => by cases h), rfl, rfl, rfl, _, rfl, rfl, rfl, SubA.of_eq rfl⟩, ⟨rfl, (fun h => by cases h), rfl, rfl, rfl, _, rfl, rfl, rfl, SubA.of_eq rfl⟩, ⟨rfl, (fun h => by cases h), rfl, rfl, rfl, _, rfl, rfl, rfl, SubA.of_eq rfl⟩, ⟨rfl, (fun h => by cases h), rfl, rfl, rfl, _, rfl, rfl, rfl, SubA.of_eq rfl⟩, ⟨rfl, (fun h => by cases h), rfl, rfl, rfl, _, rfl, rfl, rfl, SubA.of_eq rfl⟩, trivial⟩
    conv => whnf
    refine ⟨⟨⟨_, rfl, .eq rfl⟩, ⟨_, rfl, .eq rfl⟩, ⟨_, rfl, .eq rfl⟩, ⟨_, rfl, .eq rfl⟩, ⟨_, rfl, .eq rfl⟩, trivial⟩, rfl, ?_⟩
    rintro i hi
    have hn6 : (i : Int) * 1048577 ≤ 6 * 1048577 := Int.mul_le_mul_of_nonneg_right (by omega) (by omega)
    have hn0 : 0 ≤ (i : Int) * 1048577 := Int.mul_nonneg (by omega) (by omega)
    have hRB := resp_b hB (by omega) (r := r) i
    have hRl : (respC r (decAt e.counts r.fr) i).length = e.counts.length := by rw [resp_len, hl1]
    conv => whnf
    refine Fork.mk (fun g1 => ?_) (fun g1 => ?_)
    · have hi' : i < (decAt e.counts r.fr).length := by
        have : (i : Int) < ((decAt e.counts r.fr).length : Int) := of_decide_eq_true g1
        omega
      have hir : i < r.response.length := by omega
      obtain ⟨q1, q2⟩ : 0 ≤ r.response.getD i 0 ∧ r.response.getD i 0 < e.counts.length := by
        rw [show r.response.getD i 0 = r.response[i] by simp [hir]]; exact rs2 _ (List.getElem_mem hir)
      have hR1 := hRB.get hn0 (r.response.getD i 0).toNat
      have hR2 := hB.get (by omega) i
      conv => whnf
      repeat (refine VC.mk (by first | (first | (simp only [Rw.rng, List.length_set, resp_len]; omega) | (simp only [okI, decAt, addAt, Int.toNat_natCast] at *; omega)) | (simp only [okI, Rw.rng] at *; first | omega | (simp_all; done) | (simp_all; omega))) ?_; conv => whnf)
      refine ⟨i + 1, [0, 1, 2, 25, 45], by omega, by omega, ⟨⟨_, rfl, .eq rfl⟩, ⟨_, rfl, .eq rfl⟩, trivial⟩, ⟨⟨_, rfl, .eq rfl⟩, ⟨_, rfl, .eq rfl⟩, ⟨_, rfl, .eq rfl⟩, ⟨_, rfl, .eq rfl⟩, ⟨_, rfl, .eq rfl⟩, trivial⟩, ⟨rfl, (fun h => by cases h), rfl, rfl, rfl, _, rfl, rfl, rfl, SubA.of_eq rfl⟩, ⟨rfl, (fun h => by cases h), rfl, rfl, rfl, _, rfl, rfl, rfl, SubA.of_eq rfl⟩, ⟨rfl, (fun h => by cases h), rfl, rfl, rfl, _, rfl, rfl, rfl, SubA.of_eq rfl⟩, ⟨rfl, (fun h => by cases h), rfl, rfl, rfl, _, rfl, rfl, rfl, SubA.of_eq rfl⟩, ⟨rfl, (fun h => by cases h), rfl, rfl, rfl, _, rfl, rfl, rfl, SubA.of_eq ?_⟩, trivial⟩
      rw [resp_next]; rfl
    have hi' : i = (decAt e.counts r.fr).length := by
      have : ¬ ((i : Int) < ((decAt e.counts r.fr).length : Int)) := of_decide_eq_false g1
      omega
    subst hi'
    have hR1 := hRB.get hn0 r.to.toNat
    conv => whnf
    repeat (refine VC.mk (by first | (simp only [Rw.rng, List.length_set, resp_len]; omega) | (simp only [okI, decAt, addAt, Int.toNat_natCast] at *; omega)) ?_; conv => whnf)
    refine Fork.mk (fun h4 => ?_) (fun h4 => ?_)
    · replace h4 : decide (r.write ≥ 0) = true := h4
      have hS : fireV r e = .tup [.dat (.elem ⟨r.write, addAt (respC r (decAt e.counts r.fr) (decAt e.counts r.fr).length) r.to 1⟩), .bool true] := by rw [fireV, fireO, h1, h2, h5, h6, h4]; rfl
      conv => whnf
      rw [hS]
      exact EndZ.elemT rfl
    · replace h4 : decide (r.write ≥ 0) = false := h4
      have hS : fireV r e = .tup [.dat (.elem ⟨e.value, addAt (respC r (decAt e.counts r.fr) (decAt e.counts r.fr).length) r.to 1⟩), .bool true] := by rw [fireV, fireO, h1, h2, h5, h6, h4]; rfl
      conv => whnf
      rw [hS]
      exact EndZ.elemT rfl
  · have hB := hc.b.dec (by omega) r.fr
    have hB1 := hB.get (by omega) r.to.toNat
    conv => whnf
    repeat (refine VC.mk (by first | (simp only [Rw.rng, List.length_set]; omega) | (simp only [okI, decAt, addAt] at *; omega)) ?_; conv => whnf)
    refine Fork.mk (fun h4 => ?_) (fun h4 => ?_)
    · replace h4 : decide (r.write ≥ 0) = true := h4
      have hS : fireV r e = .tup [.dat (.elem ⟨r.write, addAt (decAt e.counts r.fr) r.to 1⟩), .bool true] := by rw [fireV, fireO, h1, h2, h5, h6, h4]; rfl
      conv => whnf
      rw [hS]
      exact EndZ.elemT rfl
    · replace h4 : decide (r.write ≥ 0) = false := h4
      have hS : fireV r e = .tup [.dat (.elem ⟨e.value, addAt (decAt e.counts r.fr) r.to 1⟩), .bool true] := by rw [fireV, fireO, h1, h2, h5, h6, h4]; rfl
      conv => whnf
      rw [hS]
      exact EndZ.elemT rfl
end Go.Proofs.YtgokbcjkbdabnaaGreatDoor
namespace Go.Proofs.YtgokbcjkbdabnaaGreatDoor
open Go.Ab Go.Proofs
set_option maxRecDepth 100000
end Go.Proofs.YtgokbcjkbdabnaaGreatDoor
namespace Go.Proofs.YtgokbcjkbdabnaaGreatDoor
open Go.Ab Go.Proofs
set_option maxRecDepth 100000
theorem dec_pos {r : Rule} {e : Elem} (hc : okC e.counts) (h1 : (decide (0 ≤ r.read) && e.value != r.read || e.counts.getD r.fr.toNat 0 == 0) = false) (i : Nat) : 0 ≤ (decAt e.counts r.fr).getD i 0 := by
  have h0 : ∀ j, 0 ≤ e.counts.getD j 0 := fun j => by
    by_cases hj : j < e.counts.length
    · exact (hc.get hj).1
    · rw [show e.counts.getD j 0 = 0 by simp [List.getD_eq_getElem?_getD, List.getElem?_eq_none (by omega : e.counts.length ≤ j)]]; omega
  have h2 : e.counts.getD r.fr.toNat 0 ≠ 0 := by
    rw [Bool.or_eq_false_iff] at h1
    have := h1.2
    simpa using this
  have h3 := h0 r.fr.toNat
  have h4 := h0 i
  rw [decAt, List.getD_eq_getElem?_getD, List.getElem?_set]
  split
  · split
    · simp only [Option.getD_some]; omega
    · simp
  · rw [← List.getD_eq_getElem?_getD]; exact h4
end Go.Proofs.YtgokbcjkbdabnaaGreatDoor
namespace Go.Proofs.YtgokbcjkbdabnaaGreatDoor
open Go.Ab Go.Proofs
set_option maxRecDepth 100000
/-! ### what a valid family is like -/
theorem bz {c : Bool} {a b : Int} (ha : c = true → a ≠ 0) (h : (bif c then a else b) = 0) : c = false ∧ b = 0 := by
  cases c with
  | true => exact absurd h (ha rfl)
  | false => exact ⟨rfl, h⟩
theorem nz {a : Int} (h : (a != 0) = true) : a ≠ 0 := by simpa using h
theorem first_zero : ∀ {l : List Int}, firstE l = 0 → ∀ x ∈ l, x = 0 := by
  intro l
  induction l with
  | nil => intro _ x h; cases h
  | cons a r ih =>
    intro h x hx
    simp only [firstE] at h
    split at h
    · rename_i h0
      rcases List.mem_cons.1 hx with rfl | hx
      · exact h0
      · exact ih h x hx
    · rename_i h0; exact absurd h h0
structure ValidF (p : Prot) : Prop where
  pos : 0 < p.states.length
  states : p.states.length ≤ 6
  values : p.values.length ≤ 3
  nrules : p.rules.length ≤ 8
  init : setE p.initial p.states.length = 0
  start : p.initial ≠ []
  rule : ∀ i, i < p.rules.length → ruleErr p i = 0
theorem validF {p : Prot} (h : validE p = 0) : ValidF p := by
  unfold validE at h
  obtain ⟨_, h⟩ := bz (fun _ => by decide) h
  obtain ⟨_, h⟩ := bz (fun _ => by decide) h
  obtain ⟨h0, h⟩ := bz (fun _ => by decide) h
  obtain ⟨h1, h⟩ := bz (fun _ => by decide) h
  obtain ⟨_, h⟩ := bz nz h
  obtain ⟨_, h⟩ := bz (fun _ => by decide) h
  obtain ⟨_, h⟩ := bz (fun _ => by decide) h
  obtain ⟨h2, h⟩ := bz nz h
  obtain ⟨h3, h⟩ := bz nz h
  have h2' : headE p = 0 := by simpa using h2
  have h3' : rulesE p = 0 := by simpa using h3
  have g := first_zero h2'
  simp only [largeP, Bool.or_eq_false_iff, decide_eq_false_iff_not] at h1
  refine ⟨?_, by omega, by omega, by omega, g _ (by simp), ?_, fun i hi => ?_⟩
  · have : (p.states.length : Int) ≠ 0 := by simpa using h0
    omega
  · intro e
    have := g (whenE ((p.initial.length : Int) == 0) 1) (by simp)
    rw [e] at this; exact absurd this (by decide)
  · exact first_zero h3' _ (List.mem_map.2 ⟨i, by simpa using hi, rfl⟩)
theorem outE_no {x : Int} {n : Nat} (h : outE x n = false) : 0 ≤ x ∧ x < n := by
  simp only [outE, Bool.or_eq_false_iff, decide_eq_false_iff_not] at h; omega
theorem index_zero {x : Int} {n : Nat} (h : indexE x n = 0) : 0 ≤ x ∧ x < n := by
  refine outE_no ?_
  unfold indexE whenE at h
  cases hb : outE x n with
  | false => rfl
  | true => rw [hb] at h; exact absurd h (by decide)
theorem set_place {l : List Int} {n : Nat} (h : setE l n = 0) : placeI n l := by
  unfold setE at h
  obtain ⟨h, _⟩ := bz (fun _ => by decide) h
  rw [List.any_eq_false] at h
  exact fun q hq => outE_no (by simpa using h q hq)
theorem range_place {n : Nat} : ∀ {l : List Int}, rangeE l n = 0 → placeI n l := by
  intro l
  induction l with
  | nil => intro _ q h; cases h
  | cons x r ih =>
    intro h q hq
    simp only [rangeE] at h
    split at h
    · rename_i h0
      rcases List.mem_cons.1 hq with rfl | hq
      · exact index_zero h0
      · exact ih h q hq
    · rename_i h0; exact absurd h h0
theorem fits_kind {k : Int} (h : fitsE k 1 = true) : k = 1 ∨ k = 2 ∨ k = 3 := by
  unfold fitsE at h
  cases h1 : (k == 1) with
  | true => exact .inl (beq_iff_eq.1 h1)
  | false =>
    cases h2 : (k == 2) with
    | true => exact .inr (.inl (beq_iff_eq.1 h2))
    | false =>
      cases h3 : (k == 3) with
      | true => exact .inr (.inr (beq_iff_eq.1 h3))
      | false => rw [h1, h2, h3] at h; cases hb : (k == 4 || k == 5) <;> rw [hb] at h <;> cases h
/-- A rule of a valid clique. -/
structure RuleF (n : Nat) (p : Prot) (r : Rule) : Prop where
  place : PlaceR n r
  kind : r.kind = 1 ∨ r.kind = 2 ∨ r.kind = 3
  alls : placeI n r.all
  ex1 : r.kind ≠ 1 → r.ex = [] ∧ r.all = []
  rd : outE r.read p.values.length = false ∨ r.read = -1
  wr : outE r.write p.values.length = false ∨ r.write = -1
theorem value_zero {p : Prot} {v : Int} (h : valueE p v = 0) : outE v p.values.length = false ∨ v = -1 := by
  unfold valueE whenE at h
  have h' : ¬ (v < -1 ∨ v ≥ (p.values.length : Int)) := by
    intro q
    have : (decide (v < -1) || decide (v ≥ (p.values.length : Int))) = true := by simpa using q
    rw [this] at h; exact absurd h (by decide)
  by_cases e : v = -1
  · exact .inr e
  · left
    simp only [outE, Bool.or_eq_false_iff, decide_eq_false_iff_not]; omega
theorem ruleF {p : Prot} {i : Nat} (hv : ValidF p) (ht : p.topology = 1) (hi : i < p.rules.length) : RuleF p.states.length p (p.rules.getD i default) := by
  have h := hv.rule i hi
  have hpos := hv.pos
  simp only [ruleErr, badKind] at h
  generalize (p.rules.getD i default) = r at h ⊢
  obtain ⟨_, h⟩ := bz (fun _ => by decide) h
  obtain ⟨hb, h⟩ := bz (fun _ => by decide) h
  obtain ⟨he, h⟩ := bz nz h
  rw [ends_of, Bool.or_eq_false_iff] at he
  rw [ht, Bool.or_eq_false_iff] at hb
  have hk := fits_kind (show fitsE r.kind 1 = true by simpa using hb.1)
  have hu : unusedE r 1 = false := by rw [unused_surplus (by omega)]; exact hb.2
  have hun := unused_no hu
  have hpf : r.kind ≠ 2 → r.kind ≠ 5 → r.pfrom = 0 ∧ r.pto = 0 := by
    intro k1 k2
    simp only [unusedE, cond_or, Bool.or_eq_false_iff] at hu
    have h3 := hu.2.2.1
    simp only [beq_eq_false_iff_ne.2 k1, beq_eq_false_iff_ne.2 k2, Bool.not_false, Bool.true_and, Bool.or_eq_false_iff] at h3
    exact ⟨eqz' h3.1, eqz' h3.2⟩
  have h00 : (0 : Int) ≤ 0 ∧ (0 : Int) < p.states.length := ⟨by omega, by omega⟩
  have pn : placeI p.states.length [] := fun q hq => by cases hq
  rcases hk with e | e | e
  · rw [e] at h
    have g := first_zero h
    have ⟨a, b⟩ := hpf (by omega) (by omega)
    exact ⟨⟨outE_no he.1, outE_no he.2, by rw [a]; exact h00, by rw [b]; exact h00, fun q => by omega, set_place (g (setE r.ex p.states.length) (by simp))⟩, .inl e, set_place (g (setE r.all p.states.length) (by simp)), fun q => absurd e q, value_zero (g (valueE p r.read) (by simp)), value_zero (g (valueE p r.write) (by simp))⟩
  · rw [e] at h
    have g := first_zero h
    obtain ⟨_, u1, u2, _⟩ := hun.1 (by omega)
    exact ⟨⟨outE_no he.1, outE_no he.2, index_zero (g (indexE r.pfrom p.states.length) (by simp)), index_zero (g (indexE r.pto p.states.length) (by simp)), fun q => by omega, by rw [u1]; exact pn⟩, .inr (.inl e), by rw [u2]; exact pn, fun _ => ⟨u1, u2⟩, value_zero (g (valueE p r.read) (by simp)), value_zero (g (valueE p r.write) (by simp))⟩
  · rw [e] at h
    have g := first_zero h
    have ⟨a, b⟩ := hpf (by omega) (by omega)
    obtain ⟨_, u1, u2, _⟩ := hun.1 (by omega)
    have hr := g (respE r.response p.states.length) (by simp)
    unfold respE at hr
    obtain ⟨r1, r2⟩ := bz (fun _ => by decide) hr
    exact ⟨⟨outE_no he.1, outE_no he.2, by rw [a]; exact h00, by rw [b]; exact h00, fun _ => ⟨by have q9 : (r.response.length : Int) = p.states.length := (by simpa using r1); omega, range_place r2⟩, by rw [u1]; exact pn⟩, .inr (.inr e), by rw [u2]; exact pn, fun _ => ⟨u1, u2⟩, value_zero (g (valueE p r.read) (by simp)), value_zero (g (valueE p r.write) (by simp))⟩
theorem plain_top {p : Prot} (h : plainE p = true) : p.topology = 1 := by
  simp only [plainE, Bool.and_eq_true, beq_iff_eq] at h; exact h.1.1.1
/-- What a family and an element that fit are like. -/
structure FamF (p : Prot) (e : Elem) : Prop where
  valid : ValidF p
  plain : plainE p = true
  len : e.counts.length = p.states.length
  nums : okC e.counts
  val : 0 ≤ e.value ∧ e.value < max 1 (p.values.length : Int)
theorem fam_plain {p : Prot} (h : famE p = 0) : validE p = 0 ∧ plainE p = true := by
  unfold famE at h
  obtain ⟨h1, h⟩ := bz nz h
  obtain ⟨h2, _⟩ := bz (fun _ => by decide) h
  refine ⟨by simpa using h1, ?_⟩
  simp only [classOf] at h2
  cases hp : plainE p with
  | true => rfl
  | false => rw [hp] at h2; simp at h2
theorem when_zero {b : Bool} {n : Int} (h : whenE b n = 0) (hn : n ≠ 0) : b = false := by
  cases b with
  | false => rfl
  | true => exact absurd h hn
theorem okN_iff {x : Int} : okN x = true ↔ 0 ≤ x ∧ x ≤ 1048576 := by simp [okN]
theorem vel_no {p : Prot} {e : Elem} (h : velE p e = false) : e.counts.length = p.states.length ∧ okC e.counts ∧ 0 ≤ e.value ∧ e.value < max 1 (p.values.length : Int) := by
  simp only [velE, Bool.or_eq_false_iff, decide_eq_false_iff_not] at h
  obtain ⟨⟨⟨h1, h2⟩, h3⟩, h4⟩ := h
  refine ⟨?_, fun x hx => ?_, by omega, by omega⟩
  · have : (e.counts.length : Int) = p.states.length := by simpa using h1
    omega
  · have : e.counts.all okN = true := by simpa using h2
    exact okN_iff.1 (List.all_eq_true.1 this x hx)
theorem famF {p : Prot} {e : Elem} (h : vElem p e = 0) : FamF p e := by
  unfold vElem at h
  obtain ⟨h1, h⟩ := bz nz h
  obtain ⟨h2, h3⟩ := fam_plain (by simpa using h1)
  obtain ⟨a, b, c⟩ := vel_no (when_zero h (by decide))
  exact ⟨validF h2, h3, a, b, c⟩
theorem FamF.ruleF {p : Prot} {e : Elem} (h : FamF p e) {i : Nat} (hi : i < p.rules.length) : RuleF e.counts.length p (p.rules.getD i default) := by
  rw [h.len]; exact YtgokbcjkbdabnaaGreatDoor.ruleF h.valid (plain_top h.plain) hi
/-! ### the elements behind a step -/
theorem cond_or2 {α : Type} {c : Bool} {a b : Option α} {x : α} (h : (bif c then a else b) = some x) : a = some x ∨ b = some x := by
  cases c with
  | true => exact .inl h
  | false => exact .inr h
theorem addAt_len {c : List Int} {i d : Int} : (addAt c i d).length = c.length := by simp [addAt]
theorem decAt_len {c : List Int} {i : Int} : (decAt c i).length = c.length := by simp [decAt]
theorem fireO_len {r : Rule} {e x : Elem} (h : fireO r e = some x) : x.counts.length = e.counts.length := by
  simp only [fireO] at h
  have out : ∀ {c : List Int} {v : Int}, c.length = e.counts.length → some (⟨v, addAt c r.to 1⟩ : Elem) = some x → x.counts.length = e.counts.length := by
    intro c v hc h; cases h; rw [addAt_len, hc]
  rcases cond_or2 h with h | h
  · cases h
  rcases cond_or2 h with h | h
  · rcases cond_or2 h with h | h
    · cases h
    · exact out decAt_len h
  rcases cond_or2 h with h | h
  · rcases cond_or2 h with h | h
    · cases h
    · exact out (by rw [addAt_len, decAt_len, decAt_len]) h
  rcases cond_or2 h with h | h
  · exact out (by rw [resp_len, decAt_len]) h
  · exact out decAt_len h
/-- The elements behind one of the first k rules. -/
def postL (p : Prot) (e : Elem) (k : Nat) : List Elem := (p.rules.take k).filterMap fun r => fireO r e
theorem postL_next {p : Prot} {e : Elem} {k : Nat} (hk : k < p.rules.length) : postL p e (k + 1) = postL p e k ++ (fireO (p.rules.getD k default) e).toList := by
  simp only [postL]
  rw [List.take_add_one, List.filterMap_append]
  simp only [List.getElem?_eq_getElem hk, Option.toList_some, List.getD_eq_getElem?_getD, Option.getD_some]
  cases hf : fireO p.rules[k] e with
  | none => simp [hf]
  | some x => simp [hf]
theorem postL_len {p : Prot} {e : Elem} {k : Nat} : (postL p e k).length ≤ k := by
  have h1 := List.length_filterMap_le (fun r => fireO r e) (p.rules.take k)
  simp at h1; unfold postL; omega
theorem postL_small {p : Prot} {e : Elem} {k : Nat} {x : Elem} (h : x ∈ postL p e k) : x.counts.length = e.counts.length := by
  obtain ⟨r, _, h2⟩ := List.mem_filterMap.1 h
  exact fireO_len h2
def postE (p : Prot) (e : Elem) : List Elem := bif vElem p e != 0 then [] else tidyE (postL p e p.rules.length)
end Go.Proofs.YtgokbcjkbdabnaaGreatDoor
namespace Go.Proofs.YtgokbcjkbdabnaaGreatDoor
open Go.Ab Go.Proofs
set_option maxRecDepth 100000
/-- tidy, whatever else there is. -/
theorem CallZ.tidy {h : Hz} {i n : Nat} {l : List Elem} {K : V → Hz → Prop} (hi : h.get i = some (rowE l)) (hn : h.get n = none) (hl : l.length < 2^30) (hs : smallE l)
    (h1 : K (.own i) ((i, some (rowE (tidyE l))) :: h)) (h2 : ∀ m, K (.ovw i 0 (tidyE l).length) ((i, some (.row Y.api_Element 3 (.elems (tidyE l)) (List.replicate m zeroV))) :: h)) : CallZ Tryz.prog false none F.cover_tidy [.own i] h n K := by
  refine CallZ.place1 (ts := [.own 0]) (S.cover_tidy l 1 hl hs) rfl rfl rfl rfl hi hn ?_
  rintro t hp (⟨rfl, rfl⟩ | ⟨m, rfl, rfl⟩)
  · exact .inl ⟨.own i, rowE (tidyE l), rfl, rfl, rfl, h1⟩
  · exact .inl ⟨.ovw i 0 _, .row Y.api_Element 3 (.elems (tidyE l)) (List.replicate m zeroV), rfl, rep_fre _ _, rfl, h2 m⟩
theorem EndZ.pairE {h : Hz} {j : Nat} {l : List Elem} {c : Int} (q : h.get j = some (rowE l)) : EndZ (.tup [.row 3 false (.elems l), .int c]) (.tup [.own j, .int c]) h := ⟨by
  have := lendE (Z := fun _ => True) trivial q
  show T.sub (fun _ => True) h.toHp (.tup [.sl 3 false (l.map eElem), .int c]) (.tup [.own j, .int c])
  simp only [T.sub, T.subL]
  replace this : T.sub (fun _ => True) h.toHp (.sl 3 false (l.map eElem)) (.own j) := this
  simp only [T.sub] at this
  exact ⟨this, trivial, trivial⟩⟩
theorem EndZ.pairO {h : Hz} {j m : Nat} {l : List Elem} {c : Int} (q : h.get j = some (.row Y.api_Element 3 (.elems l) (List.replicate m zeroV))) : EndZ (.tup [.row 3 false (.elems l), .int c]) (.tup [.ovw j 0 l.length, .int c]) h := ⟨by
  have := (EndZ.ovwE q).ok
  show T.sub (fun _ => True) h.toHp (.tup [.sl 3 false (l.map eElem), .int c]) (.tup [.ovw j 0 l.length, .int c])
  simp only [T.sub, T.subL]
  replace this : T.sub (fun _ => True) h.toHp (.sl 3 false (l.map eElem)) (.ovw j 0 l.length) := this
  simp only [T.sub] at this
  exact ⟨this, trivial, trivial⟩⟩
theorem EndZ.pairN {h : Hz} {k : Nat} {c : Int} : EndZ (.tup [.row 3 false (.elems []), .int c]) (.tup [.row k true .nil, .int c]) h := ⟨by
  show T.sub (fun _ => True) h.toHp (.tup [.sl 3 false [], .int c]) (.tup [.sl k true [], .int c])
  simp [T.sub, T.subL]⟩
theorem S.cover_Post (p : Prot) (e : Elem) (hp : SmallP p) (he : e.counts.length < 2^30) : SpecZ Tryz.prog F.cover_Post [.dat (.prot p), .dat (.elem e)] (.tup [.row 3 false (.elems (postE p e)), .int (vElem p e)]) := by
  have hpr := hp.rules
  refine SpecZ.of Bd.cover_Post (by simp) rfl rfl ?_
  conv => whnf
  refine CallZ.pure (S.cover_ValidElement p e hp he) rfl ?_
  conv => whnf
  refine Fork.mk (fun h1 => ?_) (fun h1 => ?_)
  · conv => whnf
    rw [postE, h1]
    exact EndZ.pairN
  replace h1 : (vElem p e != 0) = false := h1
  have h1' : vElem p e = 0 := eqz h1
  have hF := famF h1'
  have hst := hF.valid.states
  have hlen := hF.len
  have hS : postE p e = tidyE (postL p e p.rules.length) := by rw [postE, h1]; rfl
  rw [hS, h1']
  conv => whnf
  refine LoopZ.nil 7 Y.api_Element 3 (by rfl) rfl rfl rfl ?_
  refine LoopZ.objs 3 [3, 19, 20] (fun i : Nat => [(21, .int i), (7, .own 2)]) (fun i => [(1, .box Y.api_Element 3 (.dat (.elem e))), (2, rowE (postL p e i))]) (fun i => i ≤ p.rules.length) (fun i => p.rules.length - i) 0 [1, 15] rfl (by decide) (fun _ => rfl) (Nat.zero_le _) ?_ ?_ ?_
  · exact ⟨⟨_, rfl, .eq rfl⟩, ⟨_, rfl, .eq rfl⟩, trivial⟩
  · exact ⟨⟨rfl, (fun h => by cases h), rfl, rfl, rfl, _, rfl, rfl, rfl, SubA.of_eq rfl⟩, ⟨rfl, (fun h => by cases h), rfl, rfl, rfl, _, rfl, rfl, rfl, SubA.of_eq rfl⟩, trivial⟩
  conv => whnf
  refine ⟨⟨⟨_, rfl, .eq rfl⟩, ⟨_, rfl, .eq rfl⟩, ⟨_, rfl, .eq rfl⟩, trivial⟩, rfl, ?_⟩
  rintro i hi
  have hpl := postL_len (p := p) (e := e) (k := i)
  conv => whnf
  refine Fork.mk (fun h3 => ?_) (fun h3 => ?_)
  · have hi' : i < p.rules.length := by simpa using h3
    have hstep := postL_next (e := e) hi'
    conv => whnf
    refine VC.mk (by simp only [okI, Rw.rng] at *; first | omega | (simp_all; done) | (simp_all; omega)) ?_
    conv => whnf
    refine CallZ.pure (SpecZ.fireW (S.cover_after (p.rules.getD i default) e (hp.rule i) (hF.ruleF hi').place hF.nums (by omega))) rfl ?_
    conv => whnf
    refine Fork.mk (fun h4 => ?_) (fun h4 => ?_)
    · obtain ⟨x, hx⟩ := Option.isSome_iff_exists.1 h4
      rw [show fireO (p.rules.getD i default) e = some x from hx] at hstep
      rw [hx]
      conv => whnf
      repeat (refine VC.mk (by first | (show ((postL p e i).length + (0 + 1)) * 32 ≤ 140737488355328 ∧ (postL p e i).length + (0 + 1) ≤ 1152921504606846976; omega) | (simp only [okI, Rw.rng] at *; first | omega | (simp_all; done) | (simp_all; omega))) ?_; conv => whnf)
      refine ⟨i + 1, [1, 21], by omega, by omega, ⟨⟨_, rfl, .eq rfl⟩, ⟨_, rfl, .eq rfl⟩, trivial⟩, ⟨⟨_, rfl, .eq rfl⟩, ⟨_, rfl, .eq rfl⟩, ⟨_, rfl, .eq rfl⟩, trivial⟩, ⟨rfl, (fun h => by cases h), rfl, rfl, rfl, _, rfl, rfl, rfl, SubA.of_eq rfl⟩, ⟨rfl, (fun h => by cases h), rfl, rfl, rfl, _, rfl, rfl, rfl, SubA.of_eq ?_⟩, trivial⟩
      rw [hstep]
      show List.map eElem _ ++ [] = List.map eElem _ ++ [eElem _]
      simp
    · replace h4 : (fireO (p.rules.getD i default) e).isSome = false := h4
      rw [Option.isSome_eq_false_iff, Option.isNone_iff_eq_none] at h4
      rw [h4] at hstep
      conv => whnf
      refine VC.mk (by simp only [okI, Rw.rng] at *; first | omega | (simp_all; done) | (simp_all; omega)) ?_
      conv => whnf
      refine ⟨i + 1, [1, 2], by omega, by omega, ⟨⟨_, rfl, .eq rfl⟩, ⟨_, rfl, .eq rfl⟩, trivial⟩, ⟨⟨_, rfl, .eq rfl⟩, ⟨_, rfl, .eq rfl⟩, ⟨_, rfl, .eq rfl⟩, trivial⟩, ⟨rfl, (fun h => by cases h), rfl, rfl, rfl, _, rfl, rfl, rfl, SubA.of_eq rfl⟩, ⟨rfl, (fun h => by cases h), rfl, rfl, rfl, _, rfl, rfl, rfl, SubA.of_eq ?_⟩, trivial⟩
      rw [hstep]; simp
  · have hi' : i = p.rules.length := by
      have : ¬ ((i : Int) < (p.rules.length : Int)) := of_decide_eq_false h3
      omega
    subst hi'
    conv => whnf
    refine CallZ.tidy rfl rfl (by omega) (fun x hx => by rw [postL_small hx]; omega) ?_ (fun m => ?_)
    · conv => whnf
      exact EndZ.pairE rfl
    · conv => whnf
      exact EndZ.pairO rfl
end Go.Proofs.YtgokbcjkbdabnaaGreatDoor
namespace Go.Proofs.YtgokbcjkbdabnaaGreatDoor
open Go.Ab Go.Proofs
set_option maxRecDepth 100000
theorem postE_len (p : Prot) (e : Elem) (h : p.rules.length < 2^30) : (postE p e).length < 2^30 := by
  unfold postE
  cases (vElem p e != 0) with
  | true => show ([] : List Elem).length < _; decide
  | false =>
    have h1 := ddI_len (sortE (postL p e p.rules.length)) (sortE (postL p e p.rules.length)).length
    have h2 := sortE_len (postL p e p.rules.length)
    have h3 := postL_len (p := p) (e := e) (k := p.rules.length)
    show (ddI _ _).length < _
    omega
theorem postE_small (p : Prot) (e : Elem) (he : e.counts.length < 2^30) : smallE (postE p e) := by
  unfold postE
  cases (vElem p e != 0) with
  | true => intro x hx; cases hx
  | false => intro x hx; rw [postL_small ((tidyE_mem _ _).1 hx)]; omega
end Go.Proofs.YtgokbcjkbdabnaaGreatDoor
namespace Go.Proofs.YtgokbcjkbdabnaaGreatDoor
open Go.Ab Go.Proofs
set_option maxRecDepth 100000
/-! ### more processes never disable a step -/
theorem leqL_get {a b : List Int} (h : leqL a b = true) (i : Nat) : a.getD i 0 ≤ b.getD i 0 := by
  obtain ⟨h1, h2⟩ := leqL_iff.1 h
  by_cases hi : i < a.length
  · exact h2 i hi
  · rw [show a.getD i 0 = 0 by simp [List.getD_eq_getElem?_getD, List.getElem?_eq_none (by omega : a.length ≤ i)], show b.getD i 0 = 0 by simp [List.getD_eq_getElem?_getD, List.getElem?_eq_none (by omega : b.length ≤ i)]]
    exact Int.le_refl _
theorem addAt_get {c : List Int} {i d : Int} {j : Nat} : (addAt c i d).getD j 0 = if j = i.toNat ∧ j < c.length then c.getD j 0 + d else c.getD j 0 := by
  unfold addAt
  rw [List.getD_eq_getElem?_getD, List.getElem?_set]
  by_cases h : i.toNat = j
  · subst h
    by_cases h2 : i.toNat < c.length
    · simp [h2]
    · simp [h2]
  · rw [if_neg h, if_neg (fun q => h q.1.symm), List.getD_eq_getElem?_getD]
theorem leqL_add {a b : List Int} {d d' : Int} (h : leqL a b = true) (i : Int) (hd : d ≤ d') : leqL (addAt a i d) (addAt b i d') = true := by
  obtain ⟨h1, _⟩ := leqL_iff.1 h
  refine leqL_iff.2 ⟨by rw [addAt_len, addAt_len, h1], fun j _ => ?_⟩
  have := leqL_get h j
  rw [addAt_get, addAt_get, h1]
  split <;> omega
theorem dec_add {c : List Int} {i : Int} : decAt c i = addAt c i (-1) := rfl
theorem leqL_dec {a b : List Int} (h : leqL a b = true) (i : Int) : leqL (decAt a i) (decAt b i) = true := by
  rw [dec_add, dec_add]; exact leqL_add h i (Int.le_refl _)
theorem leqL_resp {r : Rule} {a b : List Int} (h : leqL a b = true) : ∀ i, leqL (respC r a i) (respC r b i) = true := by
  intro i
  induction i with
  | zero =>
    have : respC r a 0 = respC r b 0 := by simp only [respC]; rw [(leqL_iff.1 h).1]; rfl
    rw [this]; exact leqL_refl _
  | succ i ih => rw [resp_next, resp_next]; exact leqL_add ih _ (leqL_get h i)
theorem found_mono {ex a b : List Int} (h : leqL a b = true) (ha : ∀ i, 0 ≤ a.getD i 0) (q : foundB ex a a.length = true) : foundB ex b b.length = true := by
  unfold foundB at q ⊢
  rw [Bool.or_eq_true] at q ⊢
  rcases q with q | q
  · exact .inl q
  · right
    rw [any_range] at q ⊢
    obtain ⟨i, h1, h2⟩ := q
    rw [Bool.and_eq_true] at h2
    refine ⟨i, by rw [← (leqL_iff.1 h).1]; exact h1, ?_⟩
    rw [Bool.and_eq_true]
    refine ⟨?_, h2.2⟩
    have h3 : a.getD i 0 ≠ 0 := by simpa using h2.1
    have h4 := leqL_get h i
    have h5 := ha i
    have : b.getD i 0 ≠ 0 := by omega
    simpa using this
theorem block_nil {c : List Int} {n : Nat} : blockB [] c n = false := by
  unfold blockB
  rw [List.any_eq_false]
  intro j _
  simp
theorem fire_mono {r : Rule} {a b x : Elem} (hall : r.all = []) (h : leqE a b = true) (hc : okC a.counts) (hd : okC b.counts) (hx : fireO r a = some x) : ∃ y, fireO r b = some y ∧ leqE x y = true := by
  have hx0 := hx
  simp only [leqE, Bool.and_eq_true, beq_iff_eq] at h
  obtain ⟨hv, hl⟩ := h
  have h1 : (decide (0 ≤ r.read) && a.value != r.read || a.counts.getD r.fr.toNat 0 == 0) = false := by
    cases q : (decide (0 ≤ r.read) && a.value != r.read || a.counts.getD r.fr.toNat 0 == 0) with
    | false => rfl
    | true => rw [fireO, q] at hx; cases hx
  have h1b : (decide (0 ≤ r.read) && b.value != r.read || b.counts.getD r.fr.toNat 0 == 0) = false := by
    rw [Bool.or_eq_false_iff] at h1 ⊢
    rw [← hv]
    refine ⟨h1.1, ?_⟩
    have g0 := leqL_get hl r.fr.toNat
    have g1 : a.counts.getD r.fr.toNat 0 ≠ 0 := by simpa using h1.2
    have g2 : 0 ≤ a.counts.getD r.fr.toNat 0 := by
      by_cases hj : r.fr.toNat < a.counts.length
      · exact (hc.get hj).1
      · rw [show a.counts.getD r.fr.toNat 0 = 0 by simp [List.getD_eq_getElem?_getD, List.getElem?_eq_none (by omega : a.counts.length ≤ r.fr.toNat)]]; omega
    have : b.counts.getD r.fr.toNat 0 ≠ 0 := by omega
    simpa using this
  have hpa := dec_pos hc h1
  have hpb := dec_pos hd h1b
  have hl1 := leqL_dec hl r.fr
  have out : ∀ {c d : List Int}, leqL c d = true → some (⟨bif decide (r.write ≥ 0) then r.write else a.value, addAt c r.to 1⟩ : Elem) = some x → ∃ y, some (⟨bif decide (r.write ≥ 0) then r.write else b.value, addAt d r.to 1⟩ : Elem) = some y ∧ leqE x y = true := by
    intro c d hcd q
    cases q
    refine ⟨_, rfl, ?_⟩
    simp only [leqE, Bool.and_eq_true, beq_iff_eq]
    exact ⟨by rw [hv], leqL_add hcd _ (Int.le_refl _)⟩
  rw [fireO, h1] at hx
  rw [fireO, h1b]
  simp only [cond_false] at hx ⊢
  generalize decAt a.counts r.fr = ca at *
  generalize decAt b.counts r.fr = cb at *
  cases k1 : (r.kind == 1) with
  | true =>
    rw [k1] at hx
    simp only [cond_true] at hx ⊢
    cases q : allowB r ca with
    | false => rw [q] at hx; cases hx
    | true =>
      have q2 : allowB r cb = true := by
        unfold allowB at q ⊢
        rw [Bool.and_eq_true] at q ⊢
        exact ⟨by rw [hall, block_nil]; rfl, found_mono hl1 hpa q.2⟩
      rw [q] at hx; rw [q2]
      exact out hl1 hx
  | false =>
    rw [k1] at hx
    simp only [cond_false] at hx ⊢
    cases k2 : (r.kind == 2) with
    | true =>
      rw [k2] at hx
      simp only [cond_true] at hx ⊢
      cases q : (ca.getD r.pfrom.toNat 0 == 0) with
      | true => rw [q] at hx; cases hx
      | false =>
        have q2 : (cb.getD r.pfrom.toNat 0 == 0) = false := by
          have g0 := leqL_get hl1 r.pfrom.toNat
          have g1 := hpa r.pfrom.toNat
          have g2 : ca.getD r.pfrom.toNat 0 ≠ 0 := by simpa using q
          have : cb.getD r.pfrom.toNat 0 ≠ 0 := by omega
          simpa using this
        rw [q] at hx; rw [q2]
        exact out (leqL_add (leqL_dec hl1 _) _ (Int.le_refl _)) hx
    | false =>
      rw [k2] at hx
      simp only [cond_false] at hx ⊢
      cases k3 : (r.kind == 3) with
      | true =>
        rw [k3] at hx
        simp only [cond_true] at hx ⊢
        refine out ?_ hx
        rw [(leqL_iff.1 hl1).1]; exact leqL_resp hl1 _
      | false =>
        rw [k3] at hx
        exact out hl1 hx
theorem uni_all : ∀ {l : List Rule} {acc : Bool}, l.foldl uniS acc = false → acc = false ∧ ∀ r ∈ l, r.all = [] := by
  intro l
  induction l with
  | nil => intro acc h; exact ⟨h, fun r hr => by cases hr⟩
  | cons x l ih =>
    intro acc h
    obtain ⟨h1, h2⟩ := ih h
    simp only [uniS, Bool.or_eq_false_iff] at h1
    refine ⟨h1.1, fun r hr => ?_⟩
    rcases List.mem_cons.1 hr with rfl | hr
    · exact len_nil h1.2
    · exact h2 r hr
theorem cover_all {p : Prot} (h : (classOf p).cover = true) : plainE p = true ∧ ∀ r ∈ p.rules, r.all = [] := by
  simp only [classOf, Bool.and_eq_true, Bool.not_eq_true'] at h
  exact ⟨h.1, (uni_all h.2).2⟩
theorem post_mono {p : Prot} {a b : Elem} (hcl : (classOf p).cover = true) (ha : vElem p a = 0) (hb : vElem p b = 0) (h : leqE a b = true) {x : Elem} (hx : x ∈ postE p a) : (postE p b).any (fun y => leqE x y) = true := by
  have fa := famF ha
  have fb := famF hb
  unfold postE at hx ⊢
  rw [show (vElem p a != 0) = false by simp [ha]] at hx
  rw [show (vElem p b != 0) = false by simp [hb]]
  simp only [cond_false, tidyE_mem] at hx ⊢
  obtain ⟨r, h1, h2⟩ := List.mem_filterMap.1 hx
  obtain ⟨y, h3, h4⟩ := fire_mono ((cover_all hcl).2 r (List.mem_of_mem_take h1)) h fa.nums fb.nums h2
  rw [List.any_eq_true]
  exact ⟨y, (tidyE_mem _ _).2 (List.mem_filterMap.2 ⟨r, h1, h3⟩), h4⟩
end Go.Proofs.YtgokbcjkbdabnaaGreatDoor
namespace Go.Proofs.YtgokbcjkbdabnaaGreatDoor
open Go.Ab Go.Proofs
set_option maxRecDepth 100000
theorem vElem_zero {p : Prot} {e : Elem} (h1 : validE p = 0) (h2 : (classOf p).cover = true) (h3 : velE p e = false) : vElem p e = 0 := by
  have : famE p = 0 := by
    unfold famE
    rw [show (validE p != 0) = false by simp [h1], h2]; rfl
  rw [vElem, this, h3]; rfl
theorem S.law05_CoverMonotone (hsane : SpecZ Tryz.prog F.law05_sane [] (.bool true)) (p : Prot) (a b : Elem) (hp : SmallP p) (ha : a.counts.length < 2^30) (hb : b.counts.length < 2^30) :
    SpecZ Tryz.prog F.law05_CoverMonotone [.dat (.prot p), .dat (.elem a), .dat (.elem b)] (.bool true) := by
  have hla := postE_len p a hp.rules
  have hqa := postE_small p a ha
  have hlb := postE_len p b hp.rules
  have hqb := postE_small p b hb
  refine SpecZ.of Bd.law05_CoverMonotone (by simp) rfl rfl ?_
  conv => whnf
  refine CallZ.pure (S.r02_Classify p hp) rfl ?_
  conv => whnf
  repeat (refine VC.mk (by first | exact fun h => h | exact fun h => ⟨h, h⟩ | (intro h; rw [h]; rfl)) ?_; conv => whnf)
  refine CallZ.pureG (fun _ => S.r05_Fits p a hp ha) rfl ?_
  conv => whnf
  repeat (refine VC.mk (by first | exact fun h => h | exact fun h => ⟨h, h⟩ | (intro h; rw [h]; rfl)) ?_; conv => whnf)
  refine CallZ.pureG (fun _ => S.r05_Fits p b hp hb) rfl ?_
  conv => whnf
  repeat (refine VC.mk (by first | exact fun h => h | exact fun h => ⟨h, h⟩ | (intro h; rw [h]; rfl)) ?_; conv => whnf)
  refine CallZ.pureG (fun _ => S.cover_Leq a b (by omega) (by omega)) rfl ?_
  conv => whnf
  repeat (refine VC.mk (by first | exact fun h => h | (intro h; rw [h]; rfl)) ?_; conv => whnf)
  refine Fork.mk (fun h1 => ?_) (fun h1 => ?_)
  · conv => whnf
    refine CallZ.pure (hsane) rfl ?_
    conv => whnf
    exact EndZ.bool rfl
  have hc : validE p = 0 ∧ (classOf p).cover = true ∧ velE p a = false ∧ velE p b = false ∧ leqE a b = true := by
    replace h1 : ((((validE p != 0 || !(bif validE p != 0 then noCls else classOf p).cover) || !!velE p a) || !!velE p b) || !leqE a b) = false := h1
    simp only [Bool.or_eq_false_iff, Bool.not_not, Bool.not_eq_false'] at h1
    obtain ⟨⟨⟨⟨q1, q2⟩, q3⟩, q4⟩, q5⟩ := h1
    rw [q1] at q2
    exact ⟨eqz q1, q2, q3, q4, q5⟩
  obtain ⟨c1, c2, c3, c4, c5⟩ := hc
  have va := vElem_zero c1 c2 c3
  have vb := vElem_zero c1 c2 c4
  have hmono := fun x hx => post_mono (x := x) c2 va vb c5 hx
  have SA := S.cover_Post p a hp ha
  have SB := S.cover_Post p b hp hb
  rw [va] at SA
  rw [vb] at SB
  generalize postE p a = A at hla hqa hmono SA
  generalize postE p b = B at hlb hqb hmono SB
  conv => whnf
  refine CallZ.pure (SA) rfl ?_
  conv => whnf
  refine CallZ.pure (SB) rfl ?_
  conv => whnf
  repeat (refine VC.mk (by first | exact fun h => h | (intro h; rw [h]; rfl)) ?_; conv => whnf)
  refine Fork.mk (fun q => absurd (q.symm.trans ((rfl : ((0 : Int) != 0 || (0 : Int) != 0) = false))).symm Bool.false_ne_true) (fun _ => ?_)
  conv => whnf
  refine LoopZ.same [9, 11] (fun i : Nat => [(13, .int i)]) (fun i => i ≤ A.length) (fun i => A.length - i) 0 rfl (by decide) rfl (fun _ => rfl) (Nat.zero_le _) ⟨⟨_, rfl, rfl⟩, trivial⟩ ?_
  conv => whnf
  refine ⟨rfl, ?_⟩
  rintro i hi
  conv => whnf
  refine Fork.mk (fun h3 => ?_) (fun h3 => ?_)
  · have hi' : i < A.length := by simpa using h3
    have hxA : A.getD i default ∈ A := by rw [show A.getD i default = A[i] by simp [hi']]; exact List.getElem_mem hi'
    have hmx := hmono _ hxA
    have hsx := hqa.get i
    conv => whnf
    refine LoopZ.same [9, 11, 13] (fun j : Nat => [(15, .int j), (14, .bool ((B.take j).any fun y => leqE (A.getD i default) y))]) (fun j => j ≤ B.length) (fun j => B.length - j) 0 rfl (by decide) rfl (fun _ => rfl) (Nat.zero_le _) ⟨⟨_, rfl, rfl⟩, ⟨_, rfl, rfl⟩, trivial⟩ ?_
    conv => whnf
    refine ⟨rfl, ?_⟩
    rintro j hj
    conv => whnf
    refine Fork.mk (fun h4 => ?_) (fun h4 => ?_)
    · have hj' : j < B.length := by simpa using h4
      have hst : (B.take (j + 1)).any (fun y => leqE (A.getD i default) y) = ((B.take j).any (fun y => leqE (A.getD i default) y) || leqE (A.getD i default) (B.getD j default)) := by
        rw [List.take_add_one, List.any_append]; simp [hj']
      conv => whnf
      repeat (refine VC.mk (by first | exact fun h => h | exact fun h => ⟨h, h⟩ | (intro h; (repeat' apply And.intro) <;> first | exact h | omega | (simp only [Rw.rngE]; omega) | (simp only [Rw.rng]; omega))) ?_; conv => whnf)
      refine CallZ.pureG (fun _ => S.cover_Leq (A.getD i default) (B.getD j default) hsx (hqb.get j)) rfl ?_
      conv => whnf
      repeat (refine VC.mk (by first | (intro h; rw [h]; rfl) | (simp only [okI, Rw.rng] at *; first | omega | (simp_all; done) | (simp_all; omega))) ?_; conv => whnf)
      refine ⟨j + 1, by omega, by omega, ⟨⟨_, rfl, rfl⟩, ⟨_, rfl, ?_⟩, trivial⟩, ?_, rfl⟩
      · rw [hst]; rfl
      · repeat' (first | exact trivial | exact ⟨_, rfl, rfl⟩ | apply And.intro)
    · have hj' : B.length ≤ j := by simpa using h4
      rw [List.take_of_length_le hj', hmx]
      conv => whnf
      refine Fork.mk (fun q => absurd (q.symm.trans ((rfl : (!true) = false))).symm Bool.false_ne_true) (fun _ => ?_)
      conv => whnf
      refine VC.mk (by simp only [okI, Rw.rng] at *; first | omega | (simp_all; done) | (simp_all; omega)) ?_
      conv => whnf
      refine ⟨i + 1, by omega, by omega, ⟨⟨_, rfl, rfl⟩, trivial⟩, ?_, rfl⟩
      repeat' (first | exact trivial | exact ⟨_, rfl, rfl⟩ | apply And.intro)
  · conv => whnf
    refine CallZ.pure (hsane) rfl ?_
    conv => whnf
    exact EndZ.bool rfl
end Go.Proofs.YtgokbcjkbdabnaaGreatDoor
