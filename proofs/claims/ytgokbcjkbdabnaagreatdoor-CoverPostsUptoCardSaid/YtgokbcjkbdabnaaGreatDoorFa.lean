/-
  A part of the proof. No condition.
-/
import Derived.Test.YtgokbcjkbdabnaaGreatDoorRb
import Derived.Test.YtgokbcjkbdabnaaGreatDoorKa
import Derived.Test.YtgokbcjkbdabnaaGreatDoorLg
namespace Go.Proofs.YtgokbcjkbdabnaaGreatDoor
open Go.Ab Go.Proofs
set_option maxRecDepth 100000
/-! ### small functions over lists of numbers -/
def findI (s : Int) : List Int → Nat → Int
  | [], _ => -1
  | x :: r, i => bif s == x then (i : Int) else findI s r (i + 1)
theorem findI_ge {s : Int} {l : List Int} : decide (0 ≤ findI s l 0) = l.any fun x => s == x := by
  have : ∀ {l : List Int} {i : Nat}, 0 ≤ findI s l i ↔ (l.any fun x => s == x) = true := by
    intro l
    induction l with
    | nil => intro i; simp [findI]
    | cons x r ih =>
      intro i
      rw [List.any_cons, Bool.or_eq_true, ← ih (i := i + 1)]
      show (0 : Int) ≤ (bif s == x then (i : Int) else findI s r (i + 1)) ↔ _
      generalize (s == x) = b
      cases b <;> simp
  rw [Bool.eq_iff_iff, decide_eq_true_eq]; exact this
theorem S.slices_Index_int (l : List Int) (s : Int) (f : Bool) (hl : l.length < 2^40) : SpecZ Tryz.prog F.slices_Index_Lint_int [.row 0 f (.ints l), .int s] (.int (findI s l 0)) := by
  refine SpecZ.of Bd.slices_Index_Lint_int (by simp) rfl rfl ?_
  conv => whnf
  refine LoopZ.same [0, 1, 6, 7] (fun i : Nat => [(8, .int i)]) (fun i => i ≤ l.length ∧ findI s l 0 = findI s (l.drop i) i) (fun i => l.length - i) 0 rfl (by decide) rfl (fun _ => rfl) ⟨by omega, by simp⟩ ⟨⟨_, rfl, rfl⟩, trivial⟩ ?_
  conv => whnf
  refine ⟨rfl, ?_⟩
  rintro i ⟨hi, hall⟩
  conv => whnf
  refine Fork.mk (fun h3 => ?_) (fun h3 => ?_)
  · have hi' : i < l.length := by simpa using h3
    rw [drop_getD 0 hi'] at hall
    simp only [findI] at hall
    conv => whnf
    refine VC.mk (by simp only [okI, Rw.rng] at *; first | omega | (simp_all; done) | (simp_all; omega)) ?_
    conv => whnf
    refine Fork.mk (fun h4 => ?_) (fun h4 => ?_)
    · conv => whnf
      refine EndZ.int ?_
      have h4' : (s == l.getD i 0) = true := h4
      rw [hall, h4']; rfl
    · conv => whnf
      refine VC.mk (by simp only [okI, Rw.rng] at *; first | omega | (simp_all; done) | (simp_all; omega)) ?_
      conv => whnf
      refine ⟨i + 1, ⟨by omega, ?_⟩, by omega, ⟨⟨_, rfl, rfl⟩, trivial⟩, ?_, rfl⟩
      · have h4' : (s == l.getD i 0) = false := h4
        rw [hall, h4']; rfl
      · repeat' (first | exact trivial | exact ⟨_, rfl, rfl⟩ | apply And.intro)
  · conv => whnf
    refine EndZ.int ?_
    have hi' : l.length ≤ i := by simpa using h3
    rw [hall, List.drop_eq_nil_of_le hi']; rfl
/-- Is the number in the list? -/
def inI (l : List Int) (s : Int) : Bool := l.any fun x => s == x
theorem S.slices_Contains_int (l : List Int) (s : Int) (f : Bool) (hl : l.length < 2^40) : SpecZ Tryz.prog F.slices_Contains_Lint_int [.row 0 f (.ints l), .int s] (.bool (inI l s)) := by
  refine SpecZ.of Bd.slices_Contains_Lint_int (by simp) rfl rfl ?_
  conv => whnf
  refine CallZ.pure (S.slices_Index_int l s f hl) rfl ?_
  conv => whnf
  exact EndZ.bool findI_ge.symm
theorem S.r05_in (l : List Int) (s : Int) (f : Bool) (hl : l.length < 2^40) : SpecZ Tryz.prog F.r05_in [.row 0 f (.ints l), .int s] (.bool (inI l s)) := by
  refine SpecZ.of Bd.r05_in (by simp) rfl rfl ?_
  conv => whnf
  refine LoopZ.same [0, 1] (fun i : Nat => [(5, .int i)]) (fun i => i ≤ l.length ∧ (l.take i).any (fun x => s == x) = false) (fun i => l.length - i) 0 rfl (by decide) rfl (fun _ => rfl) ⟨by omega, by simp⟩ ⟨⟨_, rfl, rfl⟩, trivial⟩ ?_
  conv => whnf
  refine ⟨rfl, ?_⟩
  rintro i ⟨hi, hall⟩
  conv => whnf
  refine Fork.mk (fun h3 => ?_) (fun h3 => ?_)
  · have hi' : i < l.length := by simpa using h3
    conv => whnf
    refine VC.mk (by simp only [okI, Rw.rng] at *; first | omega | (simp_all; done) | (simp_all; omega)) ?_
    conv => whnf
    refine Fork.mk (fun h4 => ?_) (fun h4 => ?_)
    · have h4' : (s == l.getD i 0) = true := by rw [show (s == l.getD i 0) = (l.getD i 0 == s) from Bool.beq_comm]; exact h4
      conv => whnf
      exact EndZ.bool (any_of_get (d := 0) hi' h4')
    · have h4' : (s == l.getD i 0) = false := by rw [show (s == l.getD i 0) = (l.getD i 0 == s) from Bool.beq_comm]; exact h4
      conv => whnf
      refine VC.mk (by simp only [okI, Rw.rng] at *; first | omega | (simp_all; done) | (simp_all; omega)) ?_
      conv => whnf
      refine ⟨i + 1, ⟨by omega, ?_⟩, by omega, ⟨⟨_, rfl, rfl⟩, trivial⟩, ?_, rfl⟩
      · rw [any_take (d := 0) hi' hall]; exact h4'
      · repeat' (first | exact trivial | exact ⟨_, rfl, rfl⟩ | apply And.intro)
  · have hi' : l.length ≤ i := by simpa using h3
    rw [List.take_of_length_le hi'] at hall
    conv => whnf
    exact EndZ.bool hall
/-- One of these states is held. -/
def someB (c l : List Int) : Bool := l.any fun q => decide (c.getD q.toNat 0 > 0)
/-- Every number of the list is a place. -/
def placeI (n : Nat) (l : List Int) : Prop := ∀ q ∈ l, 0 ≤ q ∧ q < n
theorem S.r05_some (c l : List Int) (f g : Bool) (hc : c.length < 2^40) (hl : l.length < 2^40) (hp : placeI c.length l) : SpecZ Tryz.prog F.r05_some [.row 0 f (.ints c), .row 0 g (.ints l)] (.bool (someB c l)) := by
  refine SpecZ.of Bd.r05_some (by simp) rfl rfl ?_
  conv => whnf
  refine LoopZ.same [0, 1] (fun i : Nat => [(5, .int i)]) (fun i => i ≤ l.length ∧ (l.take i).any (fun q => decide (c.getD q.toNat 0 > 0)) = false) (fun i => l.length - i) 0 rfl (by decide) rfl (fun _ => rfl) ⟨by omega, by simp⟩ ⟨⟨_, rfl, rfl⟩, trivial⟩ ?_
  conv => whnf
  refine ⟨rfl, ?_⟩
  rintro i ⟨hi, hall⟩
  conv => whnf
  refine Fork.mk (fun h3 => ?_) (fun h3 => ?_)
  · have hi' : i < l.length := by simpa using h3
    have hq : 0 ≤ l.getD i 0 ∧ l.getD i 0 < c.length := by
      rw [show l.getD i 0 = l[i] by simp [hi']]; exact hp _ (List.getElem_mem hi')
    conv => whnf
    repeat (refine VC.mk (by simp only [okI, Rw.rng] at *; first | omega | (simp_all; done) | (simp_all; omega)) ?_; conv => whnf)
    refine Fork.mk (fun h4 => ?_) (fun h4 => ?_)
    · conv => whnf
      exact EndZ.bool (any_of_get (d := 0) hi' h4)
    · conv => whnf
      refine VC.mk (by simp only [okI, Rw.rng] at *; first | omega | (simp_all; done) | (simp_all; omega)) ?_
      conv => whnf
      refine ⟨i + 1, ⟨by omega, ?_⟩, by omega, ⟨⟨_, rfl, rfl⟩, trivial⟩, ?_, rfl⟩
      · rw [any_take (d := 0) hi' hall]; exact h4
      · repeat' (first | exact trivial | exact ⟨_, rfl, rfl⟩ | apply And.intro)
  · have hi' : l.length ≤ i := by simpa using h3
    rw [List.take_of_length_le hi'] at hall
    conv => whnf
    exact EndZ.bool hall
/-- A state outside the list is held. -/
def outB (c l : List Int) : Bool := (List.range c.length).any fun i => decide (c.getD i 0 > 0) && !(inI l i)
theorem S.r05_outside (c l : List Int) (f g : Bool) (hc : c.length < 2^40) (hl : l.length < 2^40) : SpecZ Tryz.prog F.r05_outside [.row 0 f (.ints c), .row 0 g (.ints l)] (.bool (outB c l)) := by
  refine SpecZ.of Bd.r05_outside (by simp) rfl rfl ?_
  conv => whnf
  refine LoopZ.same [0, 1] (fun i : Nat => [(5, .int i)]) (fun i => i ≤ c.length ∧ (List.range i).any (fun i => decide (c.getD i 0 > 0) && !(inI l i)) = false) (fun i => c.length - i) 0 rfl (by decide) rfl (fun _ => rfl) ⟨by omega, by simp⟩ ⟨⟨_, rfl, rfl⟩, trivial⟩ ?_
  conv => whnf
  refine ⟨rfl, ?_⟩
  rintro i ⟨hi, hall⟩
  conv => whnf
  refine Fork.mk (fun h3 => ?_) (fun h3 => ?_)
  · have hi' : i < c.length := by simpa using h3
    conv => whnf
    repeat (refine VC.mk (by first | exact fun h => ⟨h, h⟩ | (simp only [okI, Rw.rng] at *; first | omega | (simp_all; done) | (simp_all; omega))) ?_; conv => whnf)
    refine CallZ.pureG (fun _ => S.r05_in l i g hl) rfl ?_
    conv => whnf
    repeat (refine VC.mk (by exact fun h => h) ?_; conv => whnf)
    refine Fork.mk (fun h4 => ?_) (fun h4 => ?_)
    · conv => whnf
      exact EndZ.bool (any_range.2 ⟨i, hi', h4⟩)
    · conv => whnf
      refine VC.mk (by simp only [okI, Rw.rng] at *; first | omega | (simp_all; done) | (simp_all; omega)) ?_
      conv => whnf
      refine ⟨i + 1, ⟨by omega, ?_⟩, by omega, ⟨⟨_, rfl, rfl⟩, trivial⟩, ?_, rfl⟩
      · rw [List.range_succ, List.any_append, hall]
        simp only [List.any_cons, List.any_nil, Bool.or_false, Bool.false_or]; exact h4
      · repeat' (first | exact trivial | exact ⟨_, rfl, rfl⟩ | apply And.intro)
  · have hi' : c.length ≤ i := by simpa using h3
    have e : i = c.length := Nat.le_antisymm hi hi'
    subst e
    conv => whnf
    exact EndZ.bool hall
end Go.Proofs.YtgokbcjkbdabnaaGreatDoor
namespace Go.Proofs.YtgokbcjkbdabnaaGreatDoor
open Go.Ab Go.Proofs
set_option maxRecDepth 100000
/-- What the program asks of the held states. -/
def foundB (ex c : List Int) (i : Nat) : Bool := ((ex.length : Int) == 0) || (List.range i).any fun j => !(c.getD j 0 == 0) && inI ex j
def blockB (al c : List Int) (i : Nat) : Bool := (List.range i).any fun j => !(c.getD j 0 == 0) && (decide ((al.length : Int) > 0) && !(inI al j))
def allowB (r : Rule) (c : List Int) : Bool := !(blockB r.all c c.length) && foundB r.ex c c.length
theorem found_next {ex c : List Int} {i : Nat} : foundB ex c (i + 1) = (foundB ex c i || (!(c.getD i 0 == 0) && inI ex i)) := by
  simp only [foundB, List.range_succ, List.any_append, List.any_cons, List.any_nil, Bool.or_false, Bool.or_assoc]
theorem block_next {al c : List Int} {i : Nat} : blockB al c (i + 1) = (blockB al c i || (!(c.getD i 0 == 0) && (decide ((al.length : Int) > 0) && !(inI al i)))) := by
  simp only [blockB, List.range_succ, List.any_append, List.any_cons, List.any_nil, Bool.or_false]
theorem block_of {al c : List Int} {i : Nat} (hi : i < c.length) (h0 : (c.getD i 0 == 0) = false) (h : (decide ((al.length : Int) > 0) && !(inI al i)) = true) : blockB al c c.length = true :=
  any_range.2 ⟨i, hi, by rw [h0, h]; rfl⟩
theorem S.cover_allowed (r : Rule) (c : List Int) (f : Bool) (hr : SmallR r) (hc : c.length < 2^40) : SpecZ Tryz.prog F.cover_allowed [.dat (.rule r), .row 0 f (.ints c)] (.bool (allowB r c)) := by
  have g1 := hr.ex; have g2 := hr.all
  refine SpecZ.of Bd.cover_allowed (by simp) rfl rfl ?_
  conv => whnf
  refine LoopZ.same [2, 12, 13] (fun i : Nat => [(14, .int i), (5, .bool (foundB r.ex c i))]) (fun i => i ≤ c.length ∧ blockB r.all c i = false) (fun i => c.length - i) 0 rfl (by decide) rfl (fun _ => rfl) ⟨by omega, rfl⟩ ⟨⟨_, rfl, rfl⟩, ⟨_, rfl, ?_⟩, trivial⟩ ?_
  · show (V.bool (foundB r.ex c 0)).toT = (V.bool ((r.ex.length : Int) == 0)).toT
    rw [foundB]; simp
  conv => whnf
  refine ⟨rfl, ?_⟩
  rintro i ⟨hi, hall⟩
  conv => whnf
  refine Fork.mk (fun h3 => ?_) (fun h3 => ?_)
  · have hi' : i < c.length := by simpa using h3
    conv => whnf
    refine VC.mk (by simp only [okI, Rw.rng] at *; first | omega | (simp_all; done) | (simp_all; omega)) ?_
    conv => whnf
    refine Fork.mk (fun h4 => ?_) (fun h4 => ?_)
    · replace h4 : (c.getD i 0 == 0) = true := h4
      conv => whnf
      refine VC.mk (by simp only [okI, Rw.rng] at *; first | omega | (simp_all; done) | (simp_all; omega)) ?_
      conv => whnf
      refine ⟨i + 1, ⟨by omega, by rw [block_next, hall, h4]; rfl⟩, by omega, ⟨⟨_, rfl, rfl⟩, ⟨_, rfl, ?_⟩, trivial⟩, ?_, rfl⟩
      · rw [found_next, h4]; simp [V.toT, cndV]
      · repeat' (first | exact trivial | exact ⟨_, rfl, rfl⟩ | apply And.intro)
    · replace h4 : (c.getD i 0 == 0) = false := h4
      conv => whnf
      repeat (refine VC.mk (by first | exact fun h => h | exact fun h => ⟨h, h⟩) ?_; conv => whnf)
      refine CallZ.pureG (fun _ => S.slices_Contains_int r.ex i false (by omega)) rfl ?_
      conv => whnf
      repeat (refine VC.mk (by first | exact fun h => h | exact fun h => ⟨h, h⟩ | (intro h; rw [h]; rfl)) ?_; conv => whnf)
      refine CallZ.pureG (fun _ => S.slices_Contains_int r.all i false (by omega)) rfl ?_
      conv => whnf
      repeat (refine VC.mk (by exact fun h => h) ?_; conv => whnf)
      refine Fork.mk (fun h5 => ?_) (fun h5 => ?_)
      · conv => whnf
        exact EndZ.bool (by rw [allowB, block_of hi' h4 h5]; rfl)
      · conv => whnf
        refine VC.mk (by simp only [okI, Rw.rng] at *; first | omega | (simp_all; done) | (simp_all; omega)) ?_
        conv => whnf
        refine ⟨i + 1, ⟨by omega, by rw [block_next, hall, h4]; simpa using h5⟩, by omega, ⟨⟨_, rfl, rfl⟩, ⟨_, rfl, ?_⟩, trivial⟩, ?_, rfl⟩
        · rw [found_next, h4]; simp [V.toT, cndV]
        · repeat' (first | exact trivial | exact ⟨_, rfl, rfl⟩ | apply And.intro)
  · have hi' : c.length ≤ i := by simpa using h3
    have e : i = c.length := Nat.le_antisymm hi hi'
    subst e
    conv => whnf
    exact EndZ.bool (by rw [allowB, hall]; rfl)
end Go.Proofs.YtgokbcjkbdabnaaGreatDoor
namespace Go.Proofs.YtgokbcjkbdabnaaGreatDoor
open Go.Ab Go.Proofs
set_option maxRecDepth 100000
/-- A rule's places lie among n states. -/
structure PlaceR (n : Nat) (r : Rule) : Prop where
  src : 0 ≤ r.fr ∧ r.fr < n
  dst : 0 ≤ r.to ∧ r.to < n
  psrc : 0 ≤ r.pfrom ∧ r.pfrom < n
  pdst : 0 ≤ r.pto ∧ r.pto < n
  rsp : r.kind = 3 → r.response.length = n ∧ placeI n r.response
  exs : placeI n r.ex
/-- Numbers that are not too large. -/
def okC (c : List Int) : Prop := ∀ x ∈ c, 0 ≤ x ∧ x ≤ 1048576
def addAt (c : List Int) (i d : Int) : List Int := c.set i.toNat (c.getD i.toNat 0 + d)
def decAt (c : List Int) (i : Int) : List Int := c.set i.toNat (c.getD i.toNat 0 - 1)
/-- Where the others go. -/
def respC (r : Rule) (c : List Int) (i : Nat) : List Int := (List.range i).foldl (fun a j => addAt a (r.response.getD j 0) (c.getD j 0)) (List.replicate c.length 0)
/-- The element to which a step with a rule leads, if there is such a step. -/
def fireO (r : Rule) (e : Elem) : Option Elem :=
  let c1 := decAt e.counts r.fr
  let out (c : List Int) : Option Elem := some ⟨bif decide (r.write ≥ 0) then r.write else e.value, addAt c r.to 1⟩
  bif (decide (0 ≤ r.read) && e.value != r.read || e.counts.getD r.fr.toNat 0 == 0) then none else
  bif r.kind == 1 then (bif !(allowB r c1) then none else out c1) else
  bif r.kind == 2 then (bif c1.getD r.pfrom.toNat 0 == 0 then none else out (addAt (decAt c1 r.pfrom) r.pto 1)) else
  bif r.kind == 3 then out (respC r c1 c1.length) else out c1
def fireV (r : Rule) (e : Elem) : V := match fireO r e with
  | none => .tup [.agg [.int 0, .row 0 true .nil], .bool false]
  | some x => .tup [.dat (.elem x), .bool true]
theorem fireV_free (r : Rule) (e : Elem) : (fireV r e).free = true := by
  unfold fireV; cases fireO r e <;> rfl
/-- The same, an element in any case. -/
def fireW (r : Rule) (e : Elem) : V := .tup [.dat (.elem ((fireO r e).getD ⟨0, []⟩)), .bool (fireO r e).isSome]
theorem fireW_sub {Z : Nat → Prop} {h : Hp} (r : Rule) (e : Elem) : T.sub Z h (fireW r e).toT (fireV r e).toT := by
  unfold fireW fireV
  cases fireO r e with
  | none =>
    show T.sub Z h (.tup [.agg [.int 0, .sl 0 false []], .bool false]) (.tup [.agg [.int 0, .sl 0 true []], .bool false])
    simp [T.sub, T.subL]
  | some x => exact sub_refl _
theorem SpecZ.fireW {f : FuncId} {r : Rule} {e : Elem} (S : SpecZ Tryz.prog f [.dat (.rule r), .dat (.elem e)] (fireV r e)) : SpecZ Tryz.prog f [.dat (.rule r), .dat (.elem e)] (fireW r e) :=
  AFn.shut S (fun _ => fireW_sub r e) rfl
theorem okC.get {c : List Int} (h : okC c) {i : Nat} (hi : i < c.length) : 0 ≤ c.getD i 0 ∧ c.getD i 0 ≤ 1048576 := by
  rw [show c.getD i 0 = c[i] by simp [hi]]; exact h _ (List.getElem_mem hi)
theorem lendI {h : Hz} {j : Nat} {Z : Nat → Prop} {l : List Int} (hz : Z j) (q : h.get j = some (.row Y.int 0 (.ints l) [])) : T.sub Z h.toHp (V.row 0 false (.ints l)).toT (V.own j).toT := by
  show T.sub Z h.toHp (.sl 0 false (l.map T.int)) (.own j)
  simp only [T.sub]
  refine ⟨trivial, hz, ?_, by decide, Y.int, ?_⟩
  · rw [freeL_iff]; intro t ht; obtain ⟨x, _, rfl⟩ := List.mem_map.1 ht; rfl
  · have := toHp_some q
    rw [this]; simp [OV.toOb, Rw.toL, V.toL]
/-- Numbers between -b and b. -/
def okB (b : Int) (c : List Int) : Prop := ∀ x ∈ c, -b ≤ x ∧ x ≤ b
theorem okB.get {b : Int} {c : List Int} (h : okB b c) (hb : 0 ≤ b) (i : Nat) : -b ≤ c.getD i 0 ∧ c.getD i 0 ≤ b := by
  by_cases hi : i < c.length
  · rw [show c.getD i 0 = c[i] by simp [hi]]; exact h _ (List.getElem_mem hi)
  · rw [show c.getD i 0 = 0 by simp [List.getD_eq_getElem?_getD, List.getElem?_eq_none (by omega : c.length ≤ i)]]; omega
theorem okB.add {b k : Int} {c : List Int} (h : okB b c) (hb : 0 ≤ b) (i d : Int) (hd : -k ≤ d ∧ d ≤ k) : okB (b + k) (addAt c i d) := by
  intro x hx
  have hk : 0 ≤ k := by omega
  rcases List.mem_or_eq_of_mem_set hx with hx | rfl
  · have := h x hx; omega
  · have := h.get hb i.toNat; omega
theorem okB.dec {b : Int} {c : List Int} (h : okB b c) (hb : 0 ≤ b) (i : Int) : okB (b + 1) (decAt c i) := by
  have := h.add hb i (-1) (k := 1) ⟨by omega, by omega⟩
  rw [show decAt c i = addAt c i (-1) by simp only [decAt, addAt]; rfl]; exact this
theorem okC.b {c : List Int} (h : okC c) : okB 1048576 c := fun x hx => by have := h x hx; omega
/-- An element whose numbers are an own row. -/
theorem EndZ.elemT {h : Hz} {j : Nat} {v : Int} {l : List Int} (q : h.get j = some (.row Y.int 0 (.ints l) [])) : EndZ (.tup [.dat (.elem ⟨v, l⟩), .bool true]) (.tup [.agg [.int v, .own j], .bool true]) h := ⟨by
  show T.sub (fun _ => True) h.toHp (.tup [.agg [.int v, .sl 0 false (l.map T.int)], .bool true]) (.tup [.agg [.int v, .own j], .bool true])
  have := lendI (Z := fun _ => True) trivial q
  replace this : T.sub (fun _ => True) h.toHp (.sl 0 false (l.map T.int)) (.own j) := this
  simp only [T.sub] at this
  simp only [T.sub, T.subL]
  exact ⟨⟨trivial, this, trivial⟩, trivial, trivial⟩⟩
theorem makeInts {n : Nat} (h : 0 < n) : (bif isZero (.int n) then some Rw.nil else repR (n : Int).toNat (T.int 0)) = some (.ints (List.replicate n 0)) := by
  cases n with
  | zero => omega
  | succ k => rfl
theorem resp_next {r : Rule} {c : List Int} {i : Nat} : respC r c (i + 1) = addAt (respC r c i) (r.response.getD i 0) (c.getD i 0) := by
  simp only [respC, List.range_succ, List.foldl_append, List.foldl_cons, List.foldl_nil]
theorem resp_len {r : Rule} {c : List Int} {i : Nat} : (respC r c i).length = c.length := by
  induction i with
  | zero => simp [respC]
  | succ i ih => rw [resp_next]; simp [addAt, ih]
theorem resp_b {r : Rule} {c : List Int} {b : Int} (h : okB b c) (hb : 0 ≤ b) (i : Nat) : okB (i * b) (respC r c i) := by
  induction i with
  | zero => intro x hx; simp [respC] at hx; omega
  | succ i ih =>
    rw [resp_next]
    have h0 : 0 ≤ (i : Int) * b := Int.mul_nonneg (by omega) hb
    have := ih.add h0 (r.response.getD i 0) (c.getD i 0) (k := b) (h.get hb i)
    rw [show ((i + 1 : Nat) : Int) * b = i * b + b by rw [Int.natCast_add, Int.add_mul]; simp]; exact this
abbrev rowI (l : List Int) : OV := .row Y.int 0 (.ints l) []
theorem S.cover_after (r : Rule) (e : Elem) (hr : SmallR r) (hp : PlaceR e.counts.length r) (hc : okC e.counts) (hl : e.counts.length ≤ 6) : SpecZ Tryz.prog F.cover_after [.dat (.rule r), .dat (.elem e)] (fireV r e) := by
  obtain ⟨f1, f2⟩ := hp.src
  obtain ⟨d1, d2⟩ := hp.dst
  obtain ⟨p1, p2⟩ := hp.psrc
  obtain ⟨q1, q2⟩ := hp.pdst
  have hfr := hc.get (i := r.fr.toNat) (by omega)
  refine SpecZ.of Bd.cover_after (by simp) rfl (fireV_free r e) ?_
  conv => whnf
  repeat (refine VC.mk (by first | exact fun h => h | exact fun h => ⟨h, h⟩ | (intro h; rw [h]; rfl) | (intro h; (repeat' apply And.intro) <;> first | exact h | omega | (simp only [Rw.rngE]; omega) | (simp only [Rw.rng]; omega))) ?_; conv => whnf)
  refine Fork.mk (fun h1 => ?_) (fun h1 => ?_)
  · conv => whnf
    refine EndZ.eqv ?_
    rw [fireV, fireO, h1]; rfl
  have hl1 : (decAt e.counts r.fr).length = e.counts.length := by simp [decAt]
  conv => whnf
  repeat (refine VC.mk (by first | (simp only [capOk, lenRX, Rw.len, List.length_append, List.length_nil]; omega) | (simp only [okI, Rw.rng] at *; first | omega | (simp_all; done) | (simp_all; omega))) ?_; conv => whnf)
  refine Fork.mk (fun h2 => ?_) (fun h2 => ?_)
  · conv => whnf
    refine CallZ.lend (S.cover_allowed r (decAt e.counts r.fr) false hr (by omega)) (And.intro (sub_refl _) (And.intro (lendI trivial rfl) trivial)) rfl rfl ?_
    conv => whnf
    refine Fork.mk (fun h3 => ?_) (fun h3 => ?_)
    · conv => whnf
      refine EndZ.eqv ?_
      rw [fireV, fireO, h1, h2, h3]; rfl
    have hB := hc.b.dec (by omega) r.fr
    have hB1 := hB.get (by omega) r.to.toNat
    conv => whnf
    repeat (refine VC.mk (by first | (simp only [Rw.rng, List.length_set]; omega) | (simp only [okI, decAt, addAt] at *; omega)) ?_; conv => whnf)
    refine Fork.mk (fun h4 => ?_) (fun h4 => ?_)
    · replace h4 : decide (r.write ≥ 0) = true := h4
      have hS : fireV r e = .tup [.dat (.elem ⟨r.write, addAt (decAt e.counts r.fr) r.to 1⟩), .bool true] := by rw [fireV, fireO, h1, h2, h3, h4]; rfl
      conv => whnf
      rw [hS]
      exact EndZ.elemT rfl
    · replace h4 : decide (r.write ≥ 0) = false := h4
      have hS : fireV r e = .tup [.dat (.elem ⟨e.value, addAt (decAt e.counts r.fr) r.to 1⟩), .bool true] := by rw [fireV, fireO, h1, h2, h3, h4]; rfl
      conv => whnf
      rw [hS]
      exact EndZ.elemT rfl
  conv => whnf
  refine Fork.mk (fun h5 => ?_) (fun h5 => ?_)
  · have hB := hc.b.dec (by omega) r.fr
    have hB1 := hB.get (by omega) r.pfrom.toNat
    have hB2 := hB.dec (by omega) r.pfrom
    have hB3 := hB2.get (by omega) r.pto.toNat
    have hB4 := hB2.add (by omega) r.pto 1 (k := 1) ⟨by omega, by omega⟩
    have hB5 := hB4.get (by omega) r.to.toNat
    conv => whnf
    repeat (refine VC.mk (by first | (simp only [Rw.rng, List.length_set]; omega) | (simp only [okI, decAt, addAt] at *; omega)) ?_; conv => whnf)
    refine Fork.mk (fun h6 => ?_) (fun h6 => ?_)
    · replace h6 : ((decAt e.counts r.fr).getD r.pfrom.toNat 0 == 0) = true := h6
      conv => whnf
      refine EndZ.eqv ?_
      rw [fireV, fireO, h1, h2, h5, h6]; rfl
    · replace h6 : ((decAt e.counts r.fr).getD r.pfrom.toNat 0 == 0) = false := h6
      conv => whnf
      repeat (refine VC.mk (by first | (simp only [Rw.rng, List.length_set]; omega) | (simp only [okI, decAt, addAt] at *; omega)) ?_; conv => whnf)
      refine Fork.mk (fun h4 => ?_) (fun h4 => ?_)
      · replace h4 : decide (r.write ≥ 0) = true := h4
        have hS : fireV r e = .tup [.dat (.elem ⟨r.write, addAt (addAt (decAt (decAt e.counts r.fr) r.pfrom) r.pto 1) r.to 1⟩), .bool true] := by rw [fireV, fireO, h1, h2, h5, h6, h4]; rfl
        conv => whnf
        rw [hS]
        exact EndZ.elemT rfl
      · replace h4 : decide (r.write ≥ 0) = false := h4
        have hS : fireV r e = .tup [.dat (.elem ⟨e.value, addAt (addAt (decAt (decAt e.counts r.fr) r.pfrom) r.pto 1) r.to 1⟩), .bool true] := by rw [fireV, fireO, h1, h2, h5, h6, h4]; rfl
        conv => whnf
        rw [hS]
        exact EndZ.elemT rfl
  conv => whnf
  refine Fork.mk (fun h6 => ?_) (fun h6 => ?_)
  · have hB := hc.b.dec (by omega) r.fr
    obtain ⟨rs1, rs2⟩ := hp.rsp (beq_iff_eq.1 h6)
    conv => whnf
    have hm := makeInts (n := (decAt e.counts r.fr).length) (by omega)
    simp only [decAt] at hm
    rw [hm]
    conv => whnf
    refine VC.mk (by simp only [List.length_set]; omega) ?_
    conv => whnf
    refine LoopZ.objs 60 [2, 3, 4, 78, 79] (fun i : Nat => [(80, .int i), (7, .own 45)]) (fun i => [(0, .box Y.api_Rule 19 (.dat (.rule r))), (1, .box Y.api_Element 3 (.dat (.elem e))), (2, .box Y.api_Element 3 (.agg [.int 0, .row 0 true .nil])), (25, rowI (decAt e.counts r.fr)), (45, rowI (respC r (decAt e.counts r.fr) i))]) (fun i => i ≤ (decAt e.counts r.fr).length) (fun i => (decAt e.counts r.fr).length - i) 0 [0, 1, 2, 25, 45] rfl (by decide) (fun _ => rfl) (Nat.zero_le _) ?_ ?_ ?_
    · exact ⟨⟨_, rfl, .eq rfl⟩, ⟨_, rfl, .eq rfl⟩, trivial⟩
    · exact ⟨⟨rfl, (fun h => by cases h), rfl, rfl, rfl, _, rfl, rfl, rfl, SubA.of_eq rfl⟩, ⟨rfl, (fun h => by cases h), rfl, rfl, rfl, _, rfl, rfl, rfl, SubA.of_eq rfl⟩, ⟨rfl, (fun h => by cases h), rfl, rfl, rfl, _, rfl, rfl, rfl, SubA.of_eq rfl⟩, ⟨rfl, (fun h => by cases h), rfl, rfl, rfl, _, rfl, rfl, rfl, SubA.of_eq rfl⟩, ⟨rfl, (fun h => by cases h), rfl, rfl, rfl, _, rfl, rfl, rfl, SubA.of_eq rfl⟩, trivial⟩
    conv => whnf
    refine ⟨⟨⟨_, rfl, .eq rfl⟩, ⟨_, rfl, .eq rfl⟩, ⟨_, rfl, .eq rfl⟩, ⟨_, rfl, .eq rfl⟩, ⟨_, rfl, .eq rfl⟩, trivial⟩, rfl, ?_⟩
    rintro i hi
    have hn6 : (i : Int) * 1048577 ≤ 6 * 1048577 := Int.mul_le_mul_of_nonneg_right (by omega) (by omega)
    have hn0 : 0 ≤ (i : Int) * 1048577 := Int.mul_nonneg (by omega) (by omega)
    have hRB := resp_b hB (by omega) (r := r) i
    have hRl : (respC r (decAt e.counts r.fr) i).length = e.counts.length := by rw [resp_len, hl1]
    conv => whnf
    refine Fork.mk (fun g1 => ?_) (fun g1 => ?_)
    · have hi' : i < (decAt e.counts r.fr).length := by
        have : (i : Int) < ((decAt e.counts r.fr).length : Int) := of_decide_eq_true g1
        omega
      have hir : i < r.response.length := by omega
      obtain ⟨q1, q2⟩ : 0 ≤ r.response.getD i 0 ∧ r.response.getD i 0 < e.counts.length := by
        rw [show r.response.getD i 0 = r.response[i] by simp [hir]]; exact rs2 _ (List.getElem_mem hir)
      have hR1 := hRB.get hn0 (r.response.getD i 0).toNat
      have hR2 := hB.get (by omega) i
      conv => whnf
      repeat (refine VC.mk (by first | (first | (simp only [Rw.rng, List.length_set, resp_len]; omega) | (simp only [okI, decAt, addAt, Int.toNat_natCast] at *; omega)) | (simp only [okI, Rw.rng] at *; first | omega | (simp_all; done) | (simp_all; omega))) ?_; conv => whnf)
      refine ⟨i + 1, [0, 1, 2, 25, 45], by omega, by omega, ⟨⟨_, rfl, .eq rfl⟩, ⟨_, rfl, .eq rfl⟩, trivial⟩, ⟨⟨_, rfl, .eq rfl⟩, ⟨_, rfl, .eq rfl⟩, ⟨_, rfl, .eq rfl⟩, ⟨_, rfl, .eq rfl⟩, ⟨_, rfl, .eq rfl⟩, trivial⟩, ⟨rfl, (fun h => by cases h), rfl, rfl, rfl, _, rfl, rfl, rfl, SubA.of_eq rfl⟩, ⟨rfl, (fun h => by cases h), rfl, rfl, rfl, _, rfl, rfl, rfl, SubA.of_eq rfl⟩, ⟨rfl, (fun h => by cases h), rfl, rfl, rfl, _, rfl, rfl, rfl, SubA.of_eq rfl⟩, ⟨rfl, (fun h => by cases h), rfl, rfl, rfl, _, rfl, rfl, rfl, SubA.of_eq rfl⟩, ⟨rfl, (fun h => by cases h), rfl, rfl, rfl, _, rfl, rfl, rfl, SubA.of_eq ?_⟩, trivial⟩
      rw [resp_next]; rfl
    have hi' : i = (decAt e.counts r.fr).length := by
      have : ¬ ((i : Int) < ((decAt e.counts r.fr).length : Int)) := of_decide_eq_false g1
      omega
    subst hi'
    have hR1 := hRB.get hn0 r.to.toNat
    conv => whnf
    repeat (refine VC.mk (by first | (simp only [Rw.rng, List.length_set, resp_len]; omega) | (simp only [okI, decAt, addAt, Int.toNat_natCast] at *; omega)) ?_; conv => whnf)
    refine Fork.mk (fun h4 => ?_) (fun h4 => ?_)
    · replace h4 : decide (r.write ≥ 0) = true := h4
      have hS : fireV r e = .tup [.dat (.elem ⟨r.write, addAt (respC r (decAt e.counts r.fr) (decAt e.counts r.fr).length) r.to 1⟩), .bool true] := by rw [fireV, fireO, h1, h2, h5, h6, h4]; rfl
      conv => whnf
      rw [hS]
      exact EndZ.elemT rfl
    · replace h4 : decide (r.write ≥ 0) = false := h4
      have hS : fireV r e = .tup [.dat (.elem ⟨e.value, addAt (respC r (decAt e.counts r.fr) (decAt e.counts r.fr).length) r.to 1⟩), .bool true] := by rw [fireV, fireO, h1, h2, h5, h6, h4]; rfl
      conv => whnf
      rw [hS]
      exact EndZ.elemT rfl
  · have hB := hc.b.dec (by omega) r.fr
    have hB1 := hB.get (by omega) r.to.toNat
    conv => whnf
    repeat (refine VC.mk (by first | (simp only [Rw.rng, List.length_set]; omega) | (simp only [okI, decAt, addAt] at *; omega)) ?_; conv => whnf)
    refine Fork.mk (fun h4 => ?_) (fun h4 => ?_)
    · replace h4 : decide (r.write ≥ 0) = true := h4
      have hS : fireV r e = .tup [.dat (.elem ⟨r.write, addAt (decAt e.counts r.fr) r.to 1⟩), .bool true] := by rw [fireV, fireO, h1, h2, h5, h6, h4]; rfl
      conv => whnf
      rw [hS]
      exact EndZ.elemT rfl
    · replace h4 : decide (r.write ≥ 0) = false := h4
      have hS : fireV r e = .tup [.dat (.elem ⟨e.value, addAt (decAt e.counts r.fr) r.to 1⟩), .bool true] := by rw [fireV, fireO, h1, h2, h5, h6, h4]; rfl
      conv => whnf
      rw [hS]
      exact EndZ.elemT rfl
end Go.Proofs.YtgokbcjkbdabnaaGreatDoor
namespace Go.Proofs.YtgokbcjkbdabnaaGreatDoor
open Go.Ab Go.Proofs
set_option maxRecDepth 100000
theorem S.r05_CopyI (e : Elem) (he : e.counts.length < 2^30) (n : Nat) : ACalls Tryz.prog F.r05_Copy (V.toL [.dat (.elem e)]) (Hz.toHp []) n (fun t hp => t = .agg [.int e.value, .own n] ∧ hp = Hz.toHp [(n, some (rowI e.counts))]) := by
  refine SpecI.of (nx := 0) Bd.r05_Copy (by simp) ⟨_, _, rfl, rfl⟩ rfl rfl ?_
  conv => whnf
  refine VC.mk (by simp only [capOk, lenRX, Rw.len, List.length_append, List.length_nil]; omega) ?_
  conv => whnf
  exact EndI.one (c := n) (j := 7) (o := rowI e.counts) (t := .agg [.int e.value, .own n]) rfl rfl rfl (fun h => by cases h) (.inr rfl) ⟨trivial, rfl, trivial⟩ (.eq rfl) ⟨rfl, rfl⟩
theorem S.r05_CopyO (e : Elem) (he : e.counts.length < 2^30) : AFn Tryz.prog F.r05_Copy [eElem e] (fun n => .agg [.int e.value, .own n]) (some ⟨Y.int, 0, e.counts.map T.int⟩) := by
  refine ⟨by exact V.freeL_toL [.dat (.elem e)] rfl, fun n => ⟨trivial, rfl, trivial⟩, fun ob h => ?_, fun ob h => ?_, fun n => ?_⟩
  · cases h
    show T.freeL (e.counts.map T.int) = true
    rw [freeL_iff]; intro t ht; obtain ⟨x, _, rfl⟩ := List.mem_map.1 ht; rfl
  · cases h; exact show (0 : Nat) ≠ mapK by decide
  · have := S.r05_CopyI e he n
    have e1 : Hz.toHp [(n, some (rowI e.counts))] = updO no n (some ⟨Y.int, 0, e.counts.map T.int⟩) := by
      rw [toHp_put]; simp [updO, OV.toOb, Rw.toL, V.toL]; rfl
    rw [e1] at this
    exact this
end Go.Proofs.YtgokbcjkbdabnaaGreatDoor
namespace Go.Proofs.YtgokbcjkbdabnaaGreatDoor
open Go.Ab Go.Proofs
set_option maxRecDepth 100000
theorem put_row {h : Hz} {n : Nat} {l : List Int} : updO h.toHp n (some ⟨Y.int, 0, l.map T.int⟩) = Hz.toHp ((n, some (rowI l)) :: h) := by
  rw [toHp_put]; simp [updO, OV.toOb, Rw.toL, V.toL]
theorem lt1 {x : Int} (h : 0 ≤ x) : decide (x < 1) = (x == 0) := by
  rw [Bool.eq_iff_iff]; simp; omega
theorem inI_iff {l : List Int} {s : Int} : inI l s = true ↔ s ∈ l := by
  simp only [inI, List.any_eq_true, beq_iff_eq]
  constructor
  · rintro ⟨x, h, rfl⟩; exact h
  · intro h; exact ⟨s, h, rfl⟩
theorem block_eq {al c : List Int} (hc : ∀ i, 0 ≤ c.getD i 0) : blockB al c c.length = (decide (0 < (al.length : Int)) && outB c al) := by
  rw [Bool.eq_iff_iff, Bool.and_eq_true]
  simp only [blockB, outB, any_range, Bool.and_eq_true, decide_eq_true_eq, Bool.not_eq_true', beq_eq_false_iff_ne, ne_eq]
  constructor
  · rintro ⟨i, h1, h2, h3, h4⟩
    exact ⟨h3, i, h1, by have := hc i; omega, h4⟩
  · rintro ⟨h3, i, h1, h2, h4⟩
    exact ⟨i, h1, by omega, h3, h4⟩
theorem found_eq {ex c : List Int} (hc : ∀ i, 0 ≤ c.getD i 0) (hx : placeI c.length ex) : (!(foundB ex c c.length)) = (decide (0 < (ex.length : Int)) && !(someB c ex)) := by
  have h : foundB ex c c.length = (!(decide (0 < (ex.length : Int))) || someB c ex) := by
    rw [foundB]
    congr 1
    · rw [Bool.eq_iff_iff]; simp
    · rw [Bool.eq_iff_iff]
      simp only [someB, any_range, List.mem_range, Bool.and_eq_true, decide_eq_true_eq, Bool.not_eq_true', beq_eq_false_iff_ne, ne_eq, List.any_eq_true, inI_iff]
      constructor
      · rintro ⟨i, h1, h2, h3⟩
        exact ⟨i, h3, by have := hc i; simp only [Int.toNat_natCast]; omega⟩
      · rintro ⟨q, h1, h2⟩
        obtain ⟨t1, t2⟩ := hx q h1
        have t3 : q.toNat < c.length := by omega
        have t4 : ¬ c.getD q.toNat 0 = 0 := by omega
        exact ⟨q.toNat, t3, t4, by rw [Int.toNat_of_nonneg t1]; exact h1⟩
  rw [h]; cases decide (0 < (ex.length : Int)) <;> cases someB c ex <;> rfl
theorem allow_eq {r : Rule} {c : List Int} (hc : ∀ i, 0 ≤ c.getD i 0) (hx : placeI c.length r.ex) :
    ((decide (0 < (r.ex.length : Int)) && !(someB c r.ex)) || (decide (0 < (r.all.length : Int)) && outB c r.all)) = !(allowB r c) := by
  rw [allowB, Bool.not_and, Bool.not_not, block_eq hc, found_eq hc hx, Bool.or_comm]
theorem dec_pos {r : Rule} {e : Elem} (hc : okC e.counts) (h1 : (decide (0 ≤ r.read) && e.value != r.read || e.counts.getD r.fr.toNat 0 == 0) = false) (i : Nat) : 0 ≤ (decAt e.counts r.fr).getD i 0 := by
  have h0 : ∀ j, 0 ≤ e.counts.getD j 0 := fun j => by
    by_cases hj : j < e.counts.length
    · exact (hc.get hj).1
    · rw [show e.counts.getD j 0 = 0 by simp [List.getD_eq_getElem?_getD, List.getElem?_eq_none (by omega : e.counts.length ≤ j)]]; omega
  have h2 : e.counts.getD r.fr.toNat 0 ≠ 0 := by
    rw [Bool.or_eq_false_iff] at h1
    have := h1.2
    simpa using this
  have h3 := h0 r.fr.toNat
  have h4 := h0 i
  rw [decAt, List.getD_eq_getElem?_getD, List.getElem?_set]
  split
  · split
    · simp only [Option.getD_some]; omega
    · simp
  · rw [← List.getD_eq_getElem?_getD]; exact h4
/-- An object that names no other. -/
theorem okF {ρ : Nat → Nat} {nx pn c n : Nat} {h : Hz} {s : List Nat} {o o' : OV} (q1 : Nat.blt c nx = true) (q2 : Nat.blt c pn = true → n = c) (q3 : notIn n s = true) (q4 : (o.good nx && o.fre) = true) (q5 : h.get n = some o')
    (q6 : o'.toOb.ty = o.toOb.ty ∧ o'.toOb.k = o.toOb.k) (q7 : o.toOb.l = o'.toOb.l) : Nat.blt c nx = true ∧ (Nat.blt c pn = true → n = c) ∧ notIn n s = true ∧ o.good nx = true ∧
      ∃ o', h.get n = some o' ∧ o'.toOb.ty = o.toOb.ty ∧ o'.toOb.k = o.toOb.k ∧ SubA (T.renL ρ o.toOb.l) o'.toOb.l := by
  rw [Bool.and_eq_true] at q4
  exact ⟨q1, q2, q3, q4.1, o', q5, q6.1, q6.2, SubA.of_eq ((OV.fre_ren q4.2 ρ).trans q7)⟩
set_option maxHeartbeats 1000000 in
theorem S.r05_Fire (r : Rule) (e : Elem) (hr : SmallR r) (hp : PlaceR e.counts.length r) (hc : okC e.counts) (hl : e.counts.length ≤ 6) : SpecZ Tryz.prog F.r05_Fire [.dat (.rule r), .dat (.elem e)] (fireV r e) := by
  obtain ⟨f1, f2⟩ := hp.src
  obtain ⟨d1, d2⟩ := hp.dst
  obtain ⟨p1, p2⟩ := hp.psrc
  obtain ⟨q1, q2⟩ := hp.pdst
  have hfr := hc.get (i := r.fr.toNat) (by omega)
  refine SpecZ.of Bd.r05_Fire (by simp) rfl (fireV_free r e) ?_
  conv => whnf
  repeat (refine VC.mk (by first | exact fun h => h | exact fun h => ⟨h, h⟩ | (intro h; rw [h]; rfl) | (intro h; (repeat' apply And.intro) <;> first | exact h | omega | (simp only [Rw.rngE]; omega) | (simp only [Rw.rng]; omega))) ?_; conv => whnf)
  refine Fork.mk (fun h1 => ?_) (fun h1 => ?_)
  · conv => whnf
    refine EndZ.eqv ?_
    rw [lt1 hfr.1] at h1
    rw [fireV, fireO, h1]; rfl
  rw [lt1 hfr.1] at h1
  conv => whnf
  refine CallZ.heap (AFn.frame (S.r05_CopyO e (by omega)) _ _) ?_
  rintro t hp ⟨rfl, rfl⟩
  refine ⟨.agg [.int e.value, .own 24], (24, some (rowI e.counts)) :: _, rfl, put_row, ?_⟩
  have hl1 : (decAt e.counts r.fr).length = e.counts.length := by simp [decAt]
  conv => whnf
  repeat (refine VC.mk (by first | (first | (simp only [Rw.rng, List.length_set]; omega) | (simp only [okI, decAt, addAt] at *; omega)) | exact fun h => h | exact fun h => ⟨h, h⟩) ?_; conv => whnf)
  have hex := hr.ex
  have hal := hr.all
  refine CallZ.lendG (fun _ => S.r05_some (decAt e.counts r.fr) r.ex false false (by omega) (by omega) (by rw [hl1]; exact hp.exs)) (fun _ => And.intro (lendI trivial rfl) (And.intro (sub_refl _) trivial)) rfl rfl ?_
  conv => whnf
  repeat (refine VC.mk (by first | exact fun h => h | exact fun h => ⟨h, h⟩ | (intro h; simp [h]; done)) ?_; conv => whnf)
  refine CallZ.lendG (fun _ => S.r05_outside (decAt e.counts r.fr) r.all false false (by omega) (by omega)) (fun _ => And.intro (lendI trivial rfl) (And.intro (sub_refl _) trivial)) rfl rfl ?_
  conv => whnf
  repeat (refine VC.mk (by cases (r.kind == 1) <;> cases (decide (0 < (r.ex.length : Int)) && !someB (decAt e.counts r.fr) r.ex) <;> simp) ?_; conv => whnf)
  have hpos : ∀ i, 0 ≤ (decAt e.counts r.fr).getD i 0 := dec_pos hc h1
  refine Fork.mk (fun h2 => ?_) (fun h2 => ?_)
  · replace h2 : ((r.kind == 1) && ((decide (0 < (r.ex.length : Int)) && !(someB (decAt e.counts r.fr) r.ex)) || (decide (0 < (r.all.length : Int)) && outB (decAt e.counts r.fr) r.all))) = true := h2
    rw [allow_eq hpos (by rw [hl1]; exact hp.exs), Bool.and_eq_true] at h2
    conv => whnf
    refine EndZ.eqv ?_
    rw [fireV, fireO, h1, h2.1, h2.2]; rfl
  replace h2 : ((r.kind == 1) && ((decide (0 < (r.ex.length : Int)) && !(someB (decAt e.counts r.fr) r.ex)) || (decide (0 < (r.all.length : Int)) && outB (decAt e.counts r.fr) r.all))) = false := h2
  rw [allow_eq hpos (by rw [hl1]; exact hp.exs)] at h2
  conv => whnf
  refine Fork.mk (fun h5 => ?_) (fun h5 => ?_)
  · replace h5 : (r.kind == 2) = true := h5
    have hB := hc.b.dec (by omega) r.fr
    have hB1 := hB.get (by omega) r.pfrom.toNat
    have hB2 := hB.dec (by omega) r.pfrom
    have hB3 := hB2.get (by omega) r.pto.toNat
    have hB4 := hB2.add (by omega) r.pto 1 (k := 1) ⟨by omega, by omega⟩
    have hB5 := hB4.get (by omega) r.to.toNat
    have h12 : (r.kind == 1) = false := by rw [beq_iff_eq.1 h5]; rfl
    conv => whnf
    repeat (refine VC.mk (by first | (simp only [Rw.rng, List.length_set]; omega) | (simp only [okI, decAt, addAt] at *; omega)) ?_; conv => whnf)
    refine Fork.mk (fun h6 => ?_) (fun h6 => ?_)
    · replace h6 : decide ((decAt e.counts r.fr).getD r.pfrom.toNat 0 < 1) = true := h6
      rw [lt1 (hpos _)] at h6
      conv => whnf
      refine EndZ.eqv ?_
      rw [fireV, fireO, h1, h12, h5, h6]; rfl
    · replace h6 : decide ((decAt e.counts r.fr).getD r.pfrom.toNat 0 < 1) = false := h6
      rw [lt1 (hpos _)] at h6
      have h13 : (r.kind == 3) = false := by rw [beq_iff_eq.1 h5]; rfl
      conv => whnf
      repeat (refine VC.mk (by first | (simp only [Rw.rng, List.length_set]; omega) | (simp only [okI, decAt, addAt] at *; omega)) ?_; conv => whnf)
      refine Fork.mk (fun q => absurd (q.symm.trans (h13)).symm Bool.false_ne_true) (fun _ => ?_)
      conv => whnf
      repeat (refine VC.mk (by simp only [okI, Rw.rng] at *; first | omega | (simp_all; done) | (simp_all; omega)) ?_; conv => whnf)
      conv => whnf
      repeat (refine VC.mk (by first | (simp only [Rw.rng, List.length_set]; omega) | (simp only [okI, decAt, addAt] at *; omega)) ?_; conv => whnf)
      refine Fork.mk (fun h4 => ?_) (fun h4 => ?_)
      · replace h4 : decide (r.write ≥ 0) = true := h4
        have hS : fireV r e = .tup [.dat (.elem ⟨r.write, addAt (addAt (decAt (decAt e.counts r.fr) r.pfrom) r.pto 1) r.to 1⟩), .bool true] := by rw [fireV, fireO, h1, h12, h5, h6, h4]; rfl
        conv => whnf
        rw [hS]
        exact EndZ.elemT rfl
      · replace h4 : decide (r.write ≥ 0) = false := h4
        have hS : fireV r e = .tup [.dat (.elem ⟨e.value, addAt (addAt (decAt (decAt e.counts r.fr) r.pfrom) r.pto 1) r.to 1⟩), .bool true] := by rw [fireV, fireO, h1, h12, h5, h6, h4]; rfl
        conv => whnf
        rw [hS]
        exact EndZ.elemT rfl
  · replace h5 : (r.kind == 2) = false := h5
    conv => whnf
    refine Fork.mk (fun h6 => ?_) (fun h6 => ?_)
    · have h12 : (r.kind == 1) = false := by rw [beq_iff_eq.1 h6]; rfl
      have hB := hc.b.dec (by omega) r.fr
      obtain ⟨rs1, rs2⟩ := hp.rsp (beq_iff_eq.1 h6)
      conv => whnf
      have hm := makeInts (n := (decAt e.counts r.fr).length) (by omega)
      simp only [decAt] at hm
      rw [hm]
      conv => whnf
      refine VC.mk (by simp only [List.length_set]; omega) ?_
      conv => whnf
      refine LoopZ.objsR 100 [2, 4, 6] (fun i : Nat => [(8, .int i), (7, .own 75)]) (fun i => [(0, .box Y.api_Rule 19 (.dat (.rule r))), (1, .box Y.api_Element 3 (.dat (.elem e))), (2, .box Y.api_Element 3 (.agg [.int 0, .row 0 true .nil])), (24, rowI (decAt e.counts r.fr)), (25, .box Y.api_Element 3 (.agg [.int e.value, .own 24])), (75, rowI (respC r (decAt e.counts r.fr) i))]) (fun i => i ≤ (decAt e.counts r.fr).length) (fun i => (decAt e.counts r.fr).length - i) 0 [0, 1, 2, 24, 25, 75] rfl (by decide) (fun _ => rfl) (Nat.zero_le _) ?_ ?_ ?_
      · exact ⟨⟨_, rfl, .eq rfl⟩, ⟨_, rfl, .eq rfl⟩, trivial⟩
      · exact ⟨okF rfl (fun h => by cases h) rfl rfl rfl ⟨rfl, rfl⟩ rfl, okF rfl (fun h => by cases h) rfl rfl rfl ⟨rfl, rfl⟩ rfl, okF rfl (fun h => by cases h) rfl rfl rfl ⟨rfl, rfl⟩ rfl, okF rfl (fun h => by cases h) rfl rfl rfl ⟨rfl, rfl⟩ rfl, ⟨rfl, (fun h => by cases h), rfl, rfl, _, rfl, rfl, rfl, SubA.of_eq rfl⟩, okF rfl (fun h => by cases h) rfl rfl rfl ⟨rfl, rfl⟩ rfl, trivial⟩
      conv => whnf
      refine ⟨⟨⟨_, rfl, .eq rfl⟩, ⟨_, rfl, .eq rfl⟩, ⟨_, rfl, .eq rfl⟩, trivial⟩, rfl, ?_⟩
      rintro i hi
      have hn6 : (i : Int) * 1048577 ≤ 6 * 1048577 := Int.mul_le_mul_of_nonneg_right (by omega) (by omega)
      have hn0 : 0 ≤ (i : Int) * 1048577 := Int.mul_nonneg (by omega) (by omega)
      have hRB := resp_b hB (by omega) (r := r) i
      have hRl : (respC r (decAt e.counts r.fr) i).length = e.counts.length := by rw [resp_len, hl1]
      conv => whnf
      refine Fork.mk (fun g1 => ?_) (fun g1 => ?_)
      · have hi' : i < (decAt e.counts r.fr).length := by
          have : (i : Int) < ((respC r (decAt e.counts r.fr) i).length : Int) := of_decide_eq_true g1
          omega
        have hir : i < r.response.length := by omega
        obtain ⟨q3, q4⟩ : 0 ≤ r.response.getD i 0 ∧ r.response.getD i 0 < e.counts.length := by
          rw [show r.response.getD i 0 = r.response[i] by simp [hir]]; exact rs2 _ (List.getElem_mem hir)
        have hR1 := hRB.get hn0 (r.response.getD i 0).toNat
        have hR2 := hB.get (by omega) i
        conv => whnf
        repeat (refine VC.mk (by first | (first | (simp only [Rw.rng, List.length_set, resp_len]; omega) | (simp only [okI, decAt, addAt, Int.toNat_natCast] at *; omega)) | (simp only [okI, Rw.rng] at *; first | omega | (simp_all; done) | (simp_all; omega))) ?_; conv => whnf)
        refine ⟨i + 1, [0, 1, 2, 24, 25, 75], by omega, by omega, ⟨⟨_, rfl, .eq rfl⟩, ⟨_, rfl, .eq rfl⟩, trivial⟩, ⟨⟨_, rfl, .eq rfl⟩, ⟨_, rfl, .eq rfl⟩, ⟨_, rfl, .eq rfl⟩, trivial⟩, okF rfl (fun h => by cases h) rfl rfl rfl ⟨rfl, rfl⟩ rfl, okF rfl (fun h => by cases h) rfl rfl rfl ⟨rfl, rfl⟩ rfl, okF rfl (fun h => by cases h) rfl rfl rfl ⟨rfl, rfl⟩ rfl, okF rfl (fun h => by cases h) rfl rfl rfl ⟨rfl, rfl⟩ rfl, ⟨rfl, (fun h => by cases h), rfl, rfl, _, rfl, rfl, rfl, SubA.of_eq rfl⟩, okF rfl (fun h => by cases h) rfl rfl rfl ?_ ?_, trivial⟩
        · exact ⟨rfl, rfl⟩
        · rw [resp_next]; rfl
      have hi' : i = (decAt e.counts r.fr).length := by
        have : ¬ ((i : Int) < ((respC r (decAt e.counts r.fr) i).length : Int)) := of_decide_eq_false g1
        omega
      subst hi'
      have hR1 := hRB.get hn0 r.to.toNat
      conv => whnf
      repeat (refine VC.mk (by first | (simp only [Rw.rng, List.length_set, resp_len]; omega) | (simp only [okI, decAt, addAt, Int.toNat_natCast] at *; omega)) ?_; conv => whnf)
      refine Fork.mk (fun h4 => ?_) (fun h4 => ?_)
      · replace h4 : decide (r.write ≥ 0) = true := h4
        have hS : fireV r e = .tup [.dat (.elem ⟨r.write, addAt (respC r (decAt e.counts r.fr) (decAt e.counts r.fr).length) r.to 1⟩), .bool true] := by rw [fireV, fireO, h1, h12, h5, h6, h4]; rfl
        conv => whnf
        rw [hS]
        exact EndZ.elemT rfl
      · replace h4 : decide (r.write ≥ 0) = false := h4
        have hS : fireV r e = .tup [.dat (.elem ⟨e.value, addAt (respC r (decAt e.counts r.fr) (decAt e.counts r.fr).length) r.to 1⟩), .bool true] := by rw [fireV, fireO, h1, h12, h5, h6, h4]; rfl
        conv => whnf
        rw [hS]
        exact EndZ.elemT rfl
    · replace h6 : (r.kind == 3) = false := h6
      have hB := hc.b.dec (by omega) r.fr
      have hB1 := hB.get (by omega) r.to.toNat
      have hgen : fireO r e = some ⟨bif decide (r.write ≥ 0) then r.write else e.value, addAt (decAt e.counts r.fr) r.to 1⟩ := by
        rw [fireO, h1, h5, h6]
        cases h12 : (r.kind == 1) with
        | false => rfl
        | true => rw [h12, Bool.true_and] at h2; rw [h2]; rfl
      conv => whnf
      repeat (refine VC.mk (by first | (simp only [Rw.rng, List.length_set]; omega) | (simp only [okI, decAt, addAt] at *; omega)) ?_; conv => whnf)
      refine Fork.mk (fun h4 => ?_) (fun h4 => ?_)
      · replace h4 : decide (r.write ≥ 0) = true := h4
        have hS : fireV r e = .tup [.dat (.elem ⟨r.write, addAt (decAt e.counts r.fr) r.to 1⟩), .bool true] := by rw [fireV, hgen, h4]; rfl
        conv => whnf
        rw [hS]
        exact EndZ.elemT rfl
      · replace h4 : decide (r.write ≥ 0) = false := h4
        have hS : fireV r e = .tup [.dat (.elem ⟨e.value, addAt (decAt e.counts r.fr) r.to 1⟩), .bool true] := by rw [fireV, hgen, h4]; rfl
        conv => whnf
        rw [hS]
        exact EndZ.elemT rfl
end Go.Proofs.YtgokbcjkbdabnaaGreatDoor
namespace Go.Proofs.YtgokbcjkbdabnaaGreatDoor
open Go.Ab Go.Proofs
set_option maxRecDepth 100000
/-! ### what a valid family is like -/
theorem bz {c : Bool} {a b : Int} (ha : c = true → a ≠ 0) (h : (bif c then a else b) = 0) : c = false ∧ b = 0 := by
  cases c with
  | true => exact absurd h (ha rfl)
  | false => exact ⟨rfl, h⟩
theorem nz {a : Int} (h : (a != 0) = true) : a ≠ 0 := by simpa using h
theorem first_zero : ∀ {l : List Int}, firstE l = 0 → ∀ x ∈ l, x = 0 := by
  intro l
  induction l with
  | nil => intro _ x h; cases h
  | cons a r ih =>
    intro h x hx
    simp only [firstE] at h
    split at h
    · rename_i h0
      rcases List.mem_cons.1 hx with rfl | hx
      · exact h0
      · exact ih h x hx
    · rename_i h0; exact absurd h h0
structure ValidF (p : Prot) : Prop where
  pos : 0 < p.states.length
  states : p.states.length ≤ 6
  values : p.values.length ≤ 3
  nrules : p.rules.length ≤ 8
  init : setE p.initial p.states.length = 0
  start : p.initial ≠ []
  rule : ∀ i, i < p.rules.length → ruleErr p i = 0
theorem validF {p : Prot} (h : validE p = 0) : ValidF p := by
  unfold validE at h
  obtain ⟨_, h⟩ := bz (fun _ => by decide) h
  obtain ⟨_, h⟩ := bz (fun _ => by decide) h
  obtain ⟨h0, h⟩ := bz (fun _ => by decide) h
  obtain ⟨h1, h⟩ := bz (fun _ => by decide) h
  obtain ⟨_, h⟩ := bz nz h
  obtain ⟨_, h⟩ := bz (fun _ => by decide) h
  obtain ⟨_, h⟩ := bz (fun _ => by decide) h
  obtain ⟨h2, h⟩ := bz nz h
  obtain ⟨h3, h⟩ := bz nz h
  have h2' : headE p = 0 := by simpa using h2
  have h3' : rulesE p = 0 := by simpa using h3
  have g := first_zero h2'
  simp only [largeP, Bool.or_eq_false_iff, decide_eq_false_iff_not] at h1
  refine ⟨?_, by omega, by omega, by omega, g _ (by simp), ?_, fun i hi => ?_⟩
  · have : (p.states.length : Int) ≠ 0 := by simpa using h0
    omega
  · intro e
    have := g (whenE ((p.initial.length : Int) == 0) 1) (by simp)
    rw [e] at this; exact absurd this (by decide)
  · exact first_zero h3' _ (List.mem_map.2 ⟨i, by simpa using hi, rfl⟩)
theorem outE_no {x : Int} {n : Nat} (h : outE x n = false) : 0 ≤ x ∧ x < n := by
  simp only [outE, Bool.or_eq_false_iff, decide_eq_false_iff_not] at h; omega
theorem index_zero {x : Int} {n : Nat} (h : indexE x n = 0) : 0 ≤ x ∧ x < n := by
  refine outE_no ?_
  unfold indexE whenE at h
  cases hb : outE x n with
  | false => rfl
  | true => rw [hb] at h; exact absurd h (by decide)
theorem set_place {l : List Int} {n : Nat} (h : setE l n = 0) : placeI n l := by
  unfold setE at h
  obtain ⟨h, _⟩ := bz (fun _ => by decide) h
  rw [List.any_eq_false] at h
  exact fun q hq => outE_no (by simpa using h q hq)
theorem range_place {n : Nat} : ∀ {l : List Int}, rangeE l n = 0 → placeI n l := by
  intro l
  induction l with
  | nil => intro _ q h; cases h
  | cons x r ih =>
    intro h q hq
    simp only [rangeE] at h
    split at h
    · rename_i h0
      rcases List.mem_cons.1 hq with rfl | hq
      · exact index_zero h0
      · exact ih h q hq
    · rename_i h0; exact absurd h h0
theorem fits_kind {k : Int} (h : fitsE k 1 = true) : k = 1 ∨ k = 2 ∨ k = 3 := by
  unfold fitsE at h
  cases h1 : (k == 1) with
  | true => exact .inl (beq_iff_eq.1 h1)
  | false =>
    cases h2 : (k == 2) with
    | true => exact .inr (.inl (beq_iff_eq.1 h2))
    | false =>
      cases h3 : (k == 3) with
      | true => exact .inr (.inr (beq_iff_eq.1 h3))
      | false => rw [h1, h2, h3] at h; cases hb : (k == 4 || k == 5) <;> rw [hb] at h <;> cases h
/-- A rule of a valid clique. -/
structure RuleF (n : Nat) (p : Prot) (r : Rule) : Prop where
  place : PlaceR n r
  kind : r.kind = 1 ∨ r.kind = 2 ∨ r.kind = 3
  alls : placeI n r.all
  ex1 : r.kind ≠ 1 → r.ex = [] ∧ r.all = []
  rd : outE r.read p.values.length = false ∨ r.read = -1
  wr : outE r.write p.values.length = false ∨ r.write = -1
theorem value_zero {p : Prot} {v : Int} (h : valueE p v = 0) : outE v p.values.length = false ∨ v = -1 := by
  unfold valueE whenE at h
  have h' : ¬ (v < -1 ∨ v ≥ (p.values.length : Int)) := by
    intro q
    have : (decide (v < -1) || decide (v ≥ (p.values.length : Int))) = true := by simpa using q
    rw [this] at h; exact absurd h (by decide)
  by_cases e : v = -1
  · exact .inr e
  · left
    simp only [outE, Bool.or_eq_false_iff, decide_eq_false_iff_not]; omega
theorem ruleF {p : Prot} {i : Nat} (hv : ValidF p) (ht : p.topology = 1) (hi : i < p.rules.length) : RuleF p.states.length p (p.rules.getD i default) := by
  have h := hv.rule i hi
  have hpos := hv.pos
  simp only [ruleErr, badKind] at h
  generalize (p.rules.getD i default) = r at h ⊢
  obtain ⟨_, h⟩ := bz (fun _ => by decide) h
  obtain ⟨hb, h⟩ := bz (fun _ => by decide) h
  obtain ⟨he, h⟩ := bz nz h
  rw [ends_of, Bool.or_eq_false_iff] at he
  rw [ht, Bool.or_eq_false_iff] at hb
  have hk := fits_kind (show fitsE r.kind 1 = true by simpa using hb.1)
  have hu : unusedE r 1 = false := by rw [unused_surplus (by omega)]; exact hb.2
  have hun := unused_no hu
  have hpf : r.kind ≠ 2 → r.kind ≠ 5 → r.pfrom = 0 ∧ r.pto = 0 := by
    intro k1 k2
    simp only [unusedE, cond_or, Bool.or_eq_false_iff] at hu
    have h3 := hu.2.2.1
    simp only [beq_eq_false_iff_ne.2 k1, beq_eq_false_iff_ne.2 k2, Bool.not_false, Bool.true_and, Bool.or_eq_false_iff] at h3
    exact ⟨eqz' h3.1, eqz' h3.2⟩
  have h00 : (0 : Int) ≤ 0 ∧ (0 : Int) < p.states.length := ⟨by omega, by omega⟩
  have pn : placeI p.states.length [] := fun q hq => by cases hq
  rcases hk with e | e | e
  · rw [e] at h
    have g := first_zero h
    have ⟨a, b⟩ := hpf (by omega) (by omega)
    exact ⟨⟨outE_no he.1, outE_no he.2, by rw [a]; exact h00, by rw [b]; exact h00, fun q => by omega, set_place (g (setE r.ex p.states.length) (by simp))⟩, .inl e, set_place (g (setE r.all p.states.length) (by simp)), fun q => absurd e q, value_zero (g (valueE p r.read) (by simp)), value_zero (g (valueE p r.write) (by simp))⟩
  · rw [e] at h
    have g := first_zero h
    obtain ⟨_, u1, u2, _⟩ := hun.1 (by omega)
    exact ⟨⟨outE_no he.1, outE_no he.2, index_zero (g (indexE r.pfrom p.states.length) (by simp)), index_zero (g (indexE r.pto p.states.length) (by simp)), fun q => by omega, by rw [u1]; exact pn⟩, .inr (.inl e), by rw [u2]; exact pn, fun _ => ⟨u1, u2⟩, value_zero (g (valueE p r.read) (by simp)), value_zero (g (valueE p r.write) (by simp))⟩
  · rw [e] at h
    have g := first_zero h
    have ⟨a, b⟩ := hpf (by omega) (by omega)
    obtain ⟨_, u1, u2, _⟩ := hun.1 (by omega)
    have hr := g (respE r.response p.states.length) (by simp)
    unfold respE at hr
    obtain ⟨r1, r2⟩ := bz (fun _ => by decide) hr
    exact ⟨⟨outE_no he.1, outE_no he.2, by rw [a]; exact h00, by rw [b]; exact h00, fun _ => ⟨by have q9 : (r.response.length : Int) = p.states.length := (by simpa using r1); omega, range_place r2⟩, by rw [u1]; exact pn⟩, .inr (.inr e), by rw [u2]; exact pn, fun _ => ⟨u1, u2⟩, value_zero (g (valueE p r.read) (by simp)), value_zero (g (valueE p r.write) (by simp))⟩
theorem plain_top {p : Prot} (h : plainE p = true) : p.topology = 1 := by
  simp only [plainE, Bool.and_eq_true, beq_iff_eq] at h; exact h.1.1.1
/-- What a family and an element that fit are like. -/
structure FamF (p : Prot) (e : Elem) : Prop where
  valid : ValidF p
  plain : plainE p = true
  len : e.counts.length = p.states.length
  nums : okC e.counts
  val : 0 ≤ e.value ∧ e.value < max 1 (p.values.length : Int)
theorem fam_plain {p : Prot} (h : famE p = 0) : validE p = 0 ∧ plainE p = true := by
  unfold famE at h
  obtain ⟨h1, h⟩ := bz nz h
  obtain ⟨h2, _⟩ := bz (fun _ => by decide) h
  refine ⟨by simpa using h1, ?_⟩
  simp only [classOf] at h2
  cases hp : plainE p with
  | true => rfl
  | false => rw [hp] at h2; simp at h2
theorem when_zero {b : Bool} {n : Int} (h : whenE b n = 0) (hn : n ≠ 0) : b = false := by
  cases b with
  | false => rfl
  | true => exact absurd h hn
theorem okN_iff {x : Int} : okN x = true ↔ 0 ≤ x ∧ x ≤ 1048576 := by simp [okN]
theorem vel_no {p : Prot} {e : Elem} (h : velE p e = false) : e.counts.length = p.states.length ∧ okC e.counts ∧ 0 ≤ e.value ∧ e.value < max 1 (p.values.length : Int) := by
  simp only [velE, Bool.or_eq_false_iff, decide_eq_false_iff_not] at h
  obtain ⟨⟨⟨h1, h2⟩, h3⟩, h4⟩ := h
  refine ⟨?_, fun x hx => ?_, by omega, by omega⟩
  · have : (e.counts.length : Int) = p.states.length := by simpa using h1
    omega
  · have : e.counts.all okN = true := by simpa using h2
    exact okN_iff.1 (List.all_eq_true.1 this x hx)
theorem famF {p : Prot} {e : Elem} (h : vElem p e = 0) : FamF p e := by
  unfold vElem at h
  obtain ⟨h1, h⟩ := bz nz h
  obtain ⟨h2, h3⟩ := fam_plain (by simpa using h1)
  obtain ⟨a, b, c⟩ := vel_no (when_zero h (by decide))
  exact ⟨validF h2, h3, a, b, c⟩
theorem FamF.ruleF {p : Prot} {e : Elem} (h : FamF p e) {i : Nat} (hi : i < p.rules.length) : RuleF e.counts.length p (p.rules.getD i default) := by
  rw [h.len]; exact YtgokbcjkbdabnaaGreatDoor.ruleF h.valid (plain_top h.plain) hi
/-! ### the elements behind a step -/
theorem cond_or2 {α : Type} {c : Bool} {a b : Option α} {x : α} (h : (bif c then a else b) = some x) : a = some x ∨ b = some x := by
  cases c with
  | true => exact .inl h
  | false => exact .inr h
theorem addAt_len {c : List Int} {i d : Int} : (addAt c i d).length = c.length := by simp [addAt]
theorem decAt_len {c : List Int} {i : Int} : (decAt c i).length = c.length := by simp [decAt]
theorem fireO_len {r : Rule} {e x : Elem} (h : fireO r e = some x) : x.counts.length = e.counts.length := by
  simp only [fireO] at h
  have out : ∀ {c : List Int} {v : Int}, c.length = e.counts.length → some (⟨v, addAt c r.to 1⟩ : Elem) = some x → x.counts.length = e.counts.length := by
    intro c v hc h; cases h; rw [addAt_len, hc]
  rcases cond_or2 h with h | h
  · cases h
  rcases cond_or2 h with h | h
  · rcases cond_or2 h with h | h
    · cases h
    · exact out decAt_len h
  rcases cond_or2 h with h | h
  · rcases cond_or2 h with h | h
    · cases h
    · exact out (by rw [addAt_len, decAt_len, decAt_len]) h
  rcases cond_or2 h with h | h
  · exact out (by rw [resp_len, decAt_len]) h
  · exact out decAt_len h
/-- The elements behind one of the first k rules. -/
def postL (p : Prot) (e : Elem) (k : Nat) : List Elem := (p.rules.take k).filterMap fun r => fireO r e
theorem postL_next {p : Prot} {e : Elem} {k : Nat} (hk : k < p.rules.length) : postL p e (k + 1) = postL p e k ++ (fireO (p.rules.getD k default) e).toList := by
  simp only [postL]
  rw [List.take_add_one, List.filterMap_append]
  simp only [List.getElem?_eq_getElem hk, Option.toList_some, List.getD_eq_getElem?_getD, Option.getD_some]
  cases hf : fireO p.rules[k] e with
  | none => simp [hf]
  | some x => simp [hf]
theorem postL_len {p : Prot} {e : Elem} {k : Nat} : (postL p e k).length ≤ k := by
  have h1 := List.length_filterMap_le (fun r => fireO r e) (p.rules.take k)
  simp at h1; unfold postL; omega
theorem postL_small {p : Prot} {e : Elem} {k : Nat} {x : Elem} (h : x ∈ postL p e k) : x.counts.length = e.counts.length := by
  obtain ⟨r, _, h2⟩ := List.mem_filterMap.1 h
  exact fireO_len h2
def postE (p : Prot) (e : Elem) : List Elem := bif vElem p e != 0 then [] else tidyE (postL p e p.rules.length)
theorem postR (p : Prot) (e : Elem) : tidyE (postL p e p.rules.length) = (postL p e p.rules.length).foldl insE [] := by
  obtain ⟨a, b⟩ := allE_props (postL p e p.rules.length) [] (by simp [SS])
  refine ss_unique (tidyE_ss _) a fun x => ?_
  rw [tidyE_mem, b]; simp
end Go.Proofs.YtgokbcjkbdabnaaGreatDoor
namespace Go.Proofs.YtgokbcjkbdabnaaGreatDoor
open Go.Ab Go.Proofs
set_option maxRecDepth 100000
/-- Insert, whatever else there is. -/
theorem CallZ.insert {h : Hz} {i n : Nat} {l : List Elem} {e : Elem} {K : V → Hz → Prop} (hi : h.get i = some (rowE l)) (hn : h.get n = none) (hl : l.length < 2^30) (hs : smallE l) (he : e.counts.length < 2^30)
    (h1 : foundE l e = true → K (.own i) ((i, some (rowE l)) :: h)) (h2 : foundE l e = false → K (.own n) ((n, some (rowE (insE l e))) :: (i, none) :: h)) : CallZ Tryz.prog false none F.r05_Insert [.own i, .dat (.elem e)] h n K := by
  refine CallZ.place1 (ts := [.own 0, .dat (.elem e)]) (S.r05_Insert l e 1 (by decide) hl hs he) ?_ rfl rfl rfl hi hn ?_
  · show [T.own i, T.ren _ (eElem e)] = [T.own i, eElem e]
    rfl
  · rintro t hp (⟨a, rfl, rfl⟩ | ⟨a, rfl, rfl⟩)
    · exact .inl ⟨.own i, rowE l, rfl, rfl, rfl, h1 a⟩
    · exact .inr ⟨.own n, rowE (insE l e), rfl, rfl, rfl, h2 a⟩
/-- tidy, whatever else there is. -/
theorem CallZ.tidy {h : Hz} {i n : Nat} {l : List Elem} {K : V → Hz → Prop} (hi : h.get i = some (rowE l)) (hn : h.get n = none) (hl : l.length < 2^30) (hs : smallE l)
    (h1 : K (.own i) ((i, some (rowE (tidyE l))) :: h)) (h2 : ∀ m, K (.ovw i 0 (tidyE l).length) ((i, some (.row Y.api_Element 3 (.elems (tidyE l)) (List.replicate m zeroV))) :: h)) : CallZ Tryz.prog false none F.cover_tidy [.own i] h n K := by
  refine CallZ.place1 (ts := [.own 0]) (S.cover_tidy l 1 hl hs) rfl rfl rfl rfl hi hn ?_
  rintro t hp (⟨rfl, rfl⟩ | ⟨m, rfl, rfl⟩)
  · exact .inl ⟨.own i, rowE (tidyE l), rfl, rfl, rfl, h1⟩
  · exact .inl ⟨.ovw i 0 _, .row Y.api_Element 3 (.elems (tidyE l)) (List.replicate m zeroV), rfl, rep_fre _ _, rfl, h2 m⟩
theorem EndZ.pairE {h : Hz} {j : Nat} {l : List Elem} {c : Int} (q : h.get j = some (rowE l)) : EndZ (.tup [.row 3 false (.elems l), .int c]) (.tup [.own j, .int c]) h := ⟨by
  have := lendE (Z := fun _ => True) trivial q
  show T.sub (fun _ => True) h.toHp (.tup [.sl 3 false (l.map eElem), .int c]) (.tup [.own j, .int c])
  simp only [T.sub, T.subL]
  replace this : T.sub (fun _ => True) h.toHp (.sl 3 false (l.map eElem)) (.own j) := this
  simp only [T.sub] at this
  exact ⟨this, trivial, trivial⟩⟩
theorem EndZ.pairO {h : Hz} {j m : Nat} {l : List Elem} {c : Int} (q : h.get j = some (.row Y.api_Element 3 (.elems l) (List.replicate m zeroV))) : EndZ (.tup [.row 3 false (.elems l), .int c]) (.tup [.ovw j 0 l.length, .int c]) h := ⟨by
  have := (EndZ.ovwE q).ok
  show T.sub (fun _ => True) h.toHp (.tup [.sl 3 false (l.map eElem), .int c]) (.tup [.ovw j 0 l.length, .int c])
  simp only [T.sub, T.subL]
  replace this : T.sub (fun _ => True) h.toHp (.sl 3 false (l.map eElem)) (.ovw j 0 l.length) := this
  simp only [T.sub] at this
  exact ⟨this, trivial, trivial⟩⟩
theorem EndZ.pairN {h : Hz} {k : Nat} {c : Int} : EndZ (.tup [.row 3 false (.elems []), .int c]) (.tup [.row k true .nil, .int c]) h := ⟨by
  show T.sub (fun _ => True) h.toHp (.tup [.sl 3 false [], .int c]) (.tup [.sl k true [], .int c])
  simp [T.sub, T.subL]⟩
theorem S.cover_Post (p : Prot) (e : Elem) (hp : SmallP p) (he : e.counts.length < 2^30) : SpecZ Tryz.prog F.cover_Post [.dat (.prot p), .dat (.elem e)] (.tup [.row 3 false (.elems (postE p e)), .int (vElem p e)]) := by
  have hpr := hp.rules
  refine SpecZ.of Bd.cover_Post (by simp) rfl rfl ?_
  conv => whnf
  refine CallZ.pure (S.cover_ValidElement p e hp he) rfl ?_
  conv => whnf
  refine Fork.mk (fun h1 => ?_) (fun h1 => ?_)
  · conv => whnf
    rw [postE, h1]
    exact EndZ.pairN
  replace h1 : (vElem p e != 0) = false := h1
  have h1' : vElem p e = 0 := eqz h1
  have hF := famF h1'
  have hst := hF.valid.states
  have hlen := hF.len
  have hS : postE p e = tidyE (postL p e p.rules.length) := by rw [postE, h1]; rfl
  rw [hS, h1']
  conv => whnf
  refine LoopZ.nil 7 Y.api_Element 3 (by rfl) rfl rfl rfl ?_
  refine LoopZ.objs 3 [3, 19, 20] (fun i : Nat => [(21, .int i), (7, .own 2)]) (fun i => [(1, .box Y.api_Element 3 (.dat (.elem e))), (2, rowE (postL p e i))]) (fun i => i ≤ p.rules.length) (fun i => p.rules.length - i) 0 [1, 15] rfl (by decide) (fun _ => rfl) (Nat.zero_le _) ?_ ?_ ?_
  · exact ⟨⟨_, rfl, .eq rfl⟩, ⟨_, rfl, .eq rfl⟩, trivial⟩
  · exact ⟨⟨rfl, (fun h => by cases h), rfl, rfl, rfl, _, rfl, rfl, rfl, SubA.of_eq rfl⟩, ⟨rfl, (fun h => by cases h), rfl, rfl, rfl, _, rfl, rfl, rfl, SubA.of_eq rfl⟩, trivial⟩
  conv => whnf
  refine ⟨⟨⟨_, rfl, .eq rfl⟩, ⟨_, rfl, .eq rfl⟩, ⟨_, rfl, .eq rfl⟩, trivial⟩, rfl, ?_⟩
  rintro i hi
  have hpl := postL_len (p := p) (e := e) (k := i)
  conv => whnf
  refine Fork.mk (fun h3 => ?_) (fun h3 => ?_)
  · have hi' : i < p.rules.length := by simpa using h3
    have hstep := postL_next (e := e) hi'
    conv => whnf
    refine VC.mk (by simp only [okI, Rw.rng] at *; first | omega | (simp_all; done) | (simp_all; omega)) ?_
    conv => whnf
    refine CallZ.pure (SpecZ.fireW (S.cover_after (p.rules.getD i default) e (hp.rule i) (hF.ruleF hi').place hF.nums (by omega))) rfl ?_
    conv => whnf
    refine Fork.mk (fun h4 => ?_) (fun h4 => ?_)
    · obtain ⟨x, hx⟩ := Option.isSome_iff_exists.1 h4
      rw [show fireO (p.rules.getD i default) e = some x from hx] at hstep
      rw [hx]
      conv => whnf
      repeat (refine VC.mk (by first | (show ((postL p e i).length + (0 + 1)) * 32 ≤ 140737488355328 ∧ (postL p e i).length + (0 + 1) ≤ 1152921504606846976; omega) | (simp only [okI, Rw.rng] at *; first | omega | (simp_all; done) | (simp_all; omega))) ?_; conv => whnf)
      refine ⟨i + 1, [1, 21], by omega, by omega, ⟨⟨_, rfl, .eq rfl⟩, ⟨_, rfl, .eq rfl⟩, trivial⟩, ⟨⟨_, rfl, .eq rfl⟩, ⟨_, rfl, .eq rfl⟩, ⟨_, rfl, .eq rfl⟩, trivial⟩, ⟨rfl, (fun h => by cases h), rfl, rfl, rfl, _, rfl, rfl, rfl, SubA.of_eq rfl⟩, ⟨rfl, (fun h => by cases h), rfl, rfl, rfl, _, rfl, rfl, rfl, SubA.of_eq ?_⟩, trivial⟩
      rw [hstep]
      show List.map eElem _ ++ [] = List.map eElem _ ++ [eElem _]
      simp
    · replace h4 : (fireO (p.rules.getD i default) e).isSome = false := h4
      rw [Option.isSome_eq_false_iff, Option.isNone_iff_eq_none] at h4
      rw [h4] at hstep
      conv => whnf
      refine VC.mk (by simp only [okI, Rw.rng] at *; first | omega | (simp_all; done) | (simp_all; omega)) ?_
      conv => whnf
      refine ⟨i + 1, [1, 2], by omega, by omega, ⟨⟨_, rfl, .eq rfl⟩, ⟨_, rfl, .eq rfl⟩, trivial⟩, ⟨⟨_, rfl, .eq rfl⟩, ⟨_, rfl, .eq rfl⟩, ⟨_, rfl, .eq rfl⟩, trivial⟩, ⟨rfl, (fun h => by cases h), rfl, rfl, rfl, _, rfl, rfl, rfl, SubA.of_eq rfl⟩, ⟨rfl, (fun h => by cases h), rfl, rfl, rfl, _, rfl, rfl, rfl, SubA.of_eq ?_⟩, trivial⟩
      rw [hstep]; simp
  · have hi' : i = p.rules.length := by
      have : ¬ ((i : Int) < (p.rules.length : Int)) := of_decide_eq_false h3
      omega
    subst hi'
    conv => whnf
    refine CallZ.tidy rfl rfl (by omega) (fun x hx => by rw [postL_small hx]; omega) ?_ (fun m => ?_)
    · conv => whnf
      exact EndZ.pairE rfl
    · conv => whnf
      exact EndZ.pairO rfl
theorem S.r05_Post (p : Prot) (e : Elem) (hp : SmallP p) (he : e.counts.length < 2^30) : SpecZ Tryz.prog F.r05_Post [.dat (.prot p), .dat (.elem e)] (.tup [.row 3 false (.elems (postE p e)), .int (vElem p e)]) := by
  have hpr := hp.rules
  refine SpecZ.of Bd.r05_Post (by simp) rfl rfl ?_
  conv => whnf
  refine CallZ.pure (S.r05_ValidElement p e hp he) rfl ?_
  conv => whnf
  refine Fork.mk (fun h1 => ?_) (fun h1 => ?_)
  · conv => whnf
    rw [postE, h1]
    exact EndZ.pairN
  replace h1 : (vElem p e != 0) = false := h1
  have h1' : vElem p e = 0 := eqz h1
  have hF := famF h1'
  have hst := hF.valid.states
  have hlen := hF.len
  have hS : postE p e = (postL p e p.rules.length).foldl insE [] := by rw [postE, h1, ← postR]; rfl
  rw [hS, h1']
  conv => whnf
  refine LoopZ.nil 7 Y.api_Element 3 (by rfl) rfl rfl rfl ?_
  refine LoopZ.objs 3 [2, 3] (fun i : Nat => [(8, .int i), (7, .own 2)]) (fun i => [(0, .box Y.api_Protocol 11 (.dat (.prot p))), (1, .box Y.api_Element 3 (.dat (.elem e))), (2, rowE ((postL p e i).foldl insE []))]) (fun i => i ≤ p.rules.length) (fun i => p.rules.length - i) 0 [0, 1, 12] rfl (by decide) (fun _ => rfl) (Nat.zero_le _) ?_ ?_ ?_
  · exact ⟨⟨_, rfl, .eq rfl⟩, ⟨_, rfl, .eq rfl⟩, trivial⟩
  · exact ⟨⟨rfl, (fun h => by cases h), rfl, rfl, rfl, _, rfl, rfl, rfl, SubA.of_eq rfl⟩, ⟨rfl, (fun h => by cases h), rfl, rfl, rfl, _, rfl, rfl, rfl, SubA.of_eq rfl⟩, ⟨rfl, (fun h => by cases h), rfl, rfl, rfl, _, rfl, rfl, rfl, SubA.of_eq rfl⟩, trivial⟩
  conv => whnf
  refine ⟨⟨⟨_, rfl, .eq rfl⟩, ⟨_, rfl, .eq rfl⟩, trivial⟩, rfl, ?_⟩
  rintro i hi
  have hpl := postL_len (p := p) (e := e) (k := i)
  have hfl := allE_len (postL p e i) []
  have hfs : smallE ((postL p e i).foldl insE []) := fun x hx => by
    rcases allE_mem _ _ _ hx with h' | h'
    · cases h'
    · rw [postL_small h']; omega
  conv => whnf
  refine Fork.mk (fun h3 => ?_) (fun h3 => ?_)
  · have hi' : i < p.rules.length := by simpa using h3
    have hstep := postL_next (e := e) hi'
    conv => whnf
    refine VC.mk (by simp only [okI, Rw.rng] at *; first | omega | (simp_all; done) | (simp_all; omega)) ?_
    conv => whnf
    refine CallZ.pure (SpecZ.fireW (S.r05_Fire (p.rules.getD i default) e (hp.rule i) (hF.ruleF hi').place hF.nums (by omega))) rfl ?_
    conv => whnf
    refine Fork.mk (fun h4 => ?_) (fun h4 => ?_)
    · obtain ⟨x, hx⟩ := Option.isSome_iff_exists.1 h4
      have hx0 : fireO (p.rules.getD i default) e = some x := hx
      have hxl := fireO_len hx0
      rw [hx0] at hstep
      rw [hx]
      conv => whnf
      refine CallZ.insert rfl rfl (by simp only [List.length_nil] at hfl; omega) hfs (by show x.counts.length < _; omega) (fun hf => ?_) (fun hf => ?_)
      · replace hf : foundE ((postL p e i).foldl insE []) x = true := hf
        conv => whnf
        refine VC.mk (by simp only [okI, Rw.rng] at *; first | omega | (simp_all; done) | (simp_all; omega)) ?_
        conv => whnf
        refine ⟨i + 1, [0, 1, 2], by omega, by omega, ⟨⟨_, rfl, .eq rfl⟩, ⟨_, rfl, .eq rfl⟩, trivial⟩, ⟨⟨_, rfl, .eq rfl⟩, ⟨_, rfl, .eq rfl⟩, trivial⟩, ⟨rfl, (fun h => by cases h), rfl, rfl, rfl, _, rfl, rfl, rfl, SubA.of_eq rfl⟩, ⟨rfl, (fun h => by cases h), rfl, rfl, rfl, _, rfl, rfl, rfl, SubA.of_eq rfl⟩, ⟨rfl, (fun h => by cases h), rfl, rfl, rfl, _, rfl, rfl, rfl, SubA.of_eq ?_⟩, trivial⟩
        rw [hstep, List.foldl_append]
        show (rowE (insE _ x)).toOb.l = _
        rw [insE, if_pos hf]
      · conv => whnf
        refine VC.mk (by simp only [okI, Rw.rng] at *; first | omega | (simp_all; done) | (simp_all; omega)) ?_
        conv => whnf
        refine ⟨i + 1, [0, 1, 24], by omega, by omega, ⟨⟨_, rfl, .eq rfl⟩, ⟨_, rfl, .eq rfl⟩, trivial⟩, ⟨⟨_, rfl, .eq rfl⟩, ⟨_, rfl, .eq rfl⟩, trivial⟩, ⟨rfl, (fun h => by cases h), rfl, rfl, rfl, _, rfl, rfl, rfl, SubA.of_eq rfl⟩, ⟨rfl, (fun h => by cases h), rfl, rfl, rfl, _, rfl, rfl, rfl, SubA.of_eq rfl⟩, ⟨rfl, (fun h => by cases h), rfl, rfl, rfl, _, rfl, rfl, rfl, SubA.of_eq ?_⟩, trivial⟩
        rw [hstep, List.foldl_append]
        rfl
    · replace h4 : (fireO (p.rules.getD i default) e).isSome = false := h4
      rw [Option.isSome_eq_false_iff, Option.isNone_iff_eq_none] at h4
      rw [h4] at hstep
      conv => whnf
      refine VC.mk (by simp only [okI, Rw.rng] at *; first | omega | (simp_all; done) | (simp_all; omega)) ?_
      conv => whnf
      refine ⟨i + 1, [0, 1, 2], by omega, by omega, ⟨⟨_, rfl, .eq rfl⟩, ⟨_, rfl, .eq rfl⟩, trivial⟩, ⟨⟨_, rfl, .eq rfl⟩, ⟨_, rfl, .eq rfl⟩, trivial⟩, ⟨rfl, (fun h => by cases h), rfl, rfl, rfl, _, rfl, rfl, rfl, SubA.of_eq rfl⟩, ⟨rfl, (fun h => by cases h), rfl, rfl, rfl, _, rfl, rfl, rfl, SubA.of_eq rfl⟩, ⟨rfl, (fun h => by cases h), rfl, rfl, rfl, _, rfl, rfl, rfl, SubA.of_eq ?_⟩, trivial⟩
      rw [hstep]; simp
  · have hi' : i = p.rules.length := by
      have : ¬ ((i : Int) < (p.rules.length : Int)) := of_decide_eq_false h3
      omega
    subst hi'
    conv => whnf
    exact EndZ.pairE rfl
end Go.Proofs.YtgokbcjkbdabnaaGreatDoor
namespace Go.Proofs.YtgokbcjkbdabnaaGreatDoor
open Go.Ab Go.Proofs
set_option maxRecDepth 100000
theorem postE_len (p : Prot) (e : Elem) (h : p.rules.length < 2^30) : (postE p e).length < 2^30 := by
  unfold postE
  cases (vElem p e != 0) with
  | true => show ([] : List Elem).length < _; decide
  | false =>
    have h1 := ddI_len (sortE (postL p e p.rules.length)) (sortE (postL p e p.rules.length)).length
    have h2 := sortE_len (postL p e p.rules.length)
    have h3 := postL_len (p := p) (e := e) (k := p.rules.length)
    show (ddI _ _).length < _
    omega
theorem postE_small (p : Prot) (e : Elem) (he : e.counts.length < 2^30) : smallE (postE p e) := by
  unfold postE
  cases (vElem p e != 0) with
  | true => intro x hx; cases hx
  | false => intro x hx; rw [postL_small ((tidyE_mem _ _).1 hx)]; omega
theorem lend1' {h : Hz} {j : Nat} {e : Elem} {Z : Nat → Prop} (hz : Z j) (q : h.get j = some (.row Y.api_Element 3 .nil [.dat (.elem e)])) : T.sub Z h.toHp (V.row 3 false (.elems [e])).toT (V.own j).toT := by
  show T.sub Z h.toHp (.sl 3 false [eElem e]) (.own j)
  simp only [T.sub]
  exact ⟨trivial, hz, rfl, by decide, Y.api_Element, toHp_some q⟩
theorem S.law05_CoverPosts (hsane : SpecZ Tryz.prog F.law05_sane [] (.bool true)) (p : Prot) (e : Elem) (hp : SmallP p) (he : e.counts.length < 2^30) :
    SpecZ Tryz.prog F.law05_CoverPosts [.dat (.prot p), .dat (.elem e)] (.bool true) := by
  have hs : smallE [e] := fun x hx => by rw [List.mem_singleton] at hx; subst hx; omega
  have hl := postE_len p e hp.rules
  have hq := postE_small p e he
  have hsame : SpecZ Tryz.prog F.r05_Same [.row 3 false (.elems (postE p e)), .row 3 false (.elems (postE p e))] (.bool true) := by
    have := S.r05_Same (postE p e) (postE p e) false false (by omega) (by omega) hq hq
    rwa [decide_eq_true rfl] at this
  refine SpecZ.of Bd.law05_CoverPosts (by simp) rfl rfl ?_
  conv => whnf
  refine CallZ.lend (S.law05_wide [e] false (show 1 < 2^40 by decide) hs) (And.intro (lend1' trivial rfl) trivial) rfl rfl ?_
  conv => whnf
  refine Fork.mk (fun h1 => ?_) (fun h1 => ?_)
  · conv => whnf
    refine CallZ.pure (hsane) rfl ?_
    conv => whnf
    exact EndZ.bool rfl
  conv => whnf
  refine CallZ.pure (S.cover_Post p e hp he) rfl ?_
  conv => whnf
  refine CallZ.pure (S.r05_Post p e hp he) rfl ?_
  conv => whnf
  refine VC.mk (by exact fun h => ⟨h, h⟩) ?_
  conv => whnf
  refine CallZ.pureG (fun _ => hsame) rfl ?_
  conv => whnf
  refine VC.mk (by exact fun h => h) ?_
  conv => whnf
  refine CallZ.pureG (fun _ => hsane) rfl ?_
  conv => whnf
  refine VC.mk (by exact fun h => h) ?_
  conv => whnf
  exact EndZ.bool (by simp)
end Go.Proofs.YtgokbcjkbdabnaaGreatDoor
