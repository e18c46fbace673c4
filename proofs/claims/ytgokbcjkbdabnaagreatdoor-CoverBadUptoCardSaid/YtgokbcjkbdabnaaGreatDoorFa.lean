/-
 A part of the proof. No condition.
-/
import Derived.Test.YtgokbcjkbdabnaaGreatDoorRb
import Derived.Test.YtgokbcjkbdabnaaGreatDoorKa
import Derived.Test.YtgokbcjkbdabnaaGreatDoorLg
namespace Go.Proofs.YtgokbcjkbdabnaaGreatDoor
open Go.Ab Go.Proofs
set_option maxRecDepth 100000
def findI (s : Int) : List Int → Nat → Int
 | [], _ => -1
 | x :: r, i => bif s == x then (i : Int) else findI s r (i + 1)
theorem findI_ge {s : Int} {l : List Int} : decide (0 ≤ findI s l 0) = l.any fun x => s == x := by
 have : ∀ {l : List Int} {i : Nat}, 0 ≤ findI s l i ↔ (l.any fun x => s == x) = true := by
  intro l
  induction l with
  | nil => intro i; simp [findI]
  | cons x r ih =>
   intro i
   rw [List.any_cons, Bool.or_eq_true, ← ih (i := i + 1)]
   show (0 : Int) ≤ (bif s == x then (i : Int) else findI s r (i + 1)) ↔ _
   generalize (s == x) = b
   cases b <;> simp
 rw [Bool.eq_iff_iff, decide_eq_true_eq]; exact this
theorem S.slices_Index_int (l : List Int) (s : Int) (f : Bool) (hl : l.length < 2^40) : SpecZ Tryz.prog F.slices_Index_Lint_int [.row 0 f (.ints l), .int s] (.int (findI s l 0)) := by
 refine SpecZ.of Bd.slices_Index_Lint_int (by simp) rfl rfl ?_
 conv => whnf
 refine LoopZ.same [0, 1, 6, 7] (fun i : Nat => [(8, .int i)]) (fun i => i ≤ l.length ∧ findI s l 0 = findI s (l.drop i) i) (fun i => l.length - i) 0 rfl (by decide) rfl (fun _ => rfl) ⟨by omega, by simp⟩ ⟨⟨_, rfl, rfl⟩, trivial⟩ ?_
 conv => whnf
 refine ⟨rfl, ?_⟩
 rintro i ⟨hi, hall⟩
 conv => whnf
 refine ⟨fun h3 => ?_, fun h3 => ?_⟩
 ·have hi' : i < l.length := by simpa using h3
  rw [drop_getD 0 hi'] at hall
  simp only [findI] at hall
  conv => whnf
  refine .mk (by simp only [okI, Rw.rng] at *; first | omega | (simp_all; done) | (simp_all; omega)) ?_
  conv => whnf
  refine ⟨fun h4 => ?_, fun h4 => ?_⟩
  ·conv => whnf
   refine EndZ.int ?_
   have h4' : (s == l.getD i 0) = true := h4
   rw [hall, h4']; rfl
  ·conv => whnf
   refine .mk (by simp only [okI, Rw.rng] at *; first | omega | (simp_all; done) | (simp_all; omega)) ?_
   conv => whnf
   refine ⟨i + 1, ⟨by omega, ?_⟩, by omega, ⟨⟨_, rfl, rfl⟩, trivial⟩, ?_, rfl⟩
   ·have h4' : (s == l.getD i 0) = false := h4
    rw [hall, h4']; rfl
   ·repeat' (first | exact trivial | exact ⟨_, rfl, rfl⟩ | constructor)
 ·conv => whnf
  refine EndZ.int ?_
  have hi' : l.length ≤ i := by simpa using h3
  rw [hall, List.drop_eq_nil_of_le hi']; rfl
def inI (l : List Int) (s : Int) : Bool := l.any fun x => s == x
theorem S.slices_Contains_int (l : List Int) (s : Int) (f : Bool) (hl : l.length < 2^40) : SpecZ Tryz.prog F.slices_Contains_Lint_int [.row 0 f (.ints l), .int s] (.bool (inI l s)) := by
 refine SpecZ.of Bd.slices_Contains_Lint_int (by simp) rfl rfl ?_
 conv => whnf
 refine CallZ.pure (S.slices_Index_int l s f hl) rfl ?_
 conv => whnf
 exact EndZ.bool findI_ge.symm
theorem S.r05_in (l : List Int) (s : Int) (f : Bool) (hl : l.length < 2^40) : SpecZ Tryz.prog F.r05_in [.row 0 f (.ints l), .int s] (.bool (inI l s)) := by
 refine SpecZ.of Bd.r05_in (by simp) rfl rfl ?_
 conv => whnf
 refine LoopZ.same [0, 1] (fun i : Nat => [(5, .int i)]) (fun i => i ≤ l.length ∧ (l.take i).any (fun x => s == x) = false) (fun i => l.length - i) 0 rfl (by decide) rfl (fun _ => rfl) ⟨by omega, by simp⟩ ⟨⟨_, rfl, rfl⟩, trivial⟩ ?_
 conv => whnf
 refine ⟨rfl, ?_⟩
 rintro i ⟨hi, hall⟩
 conv => whnf
 refine ⟨fun h3 => ?_, fun h3 => ?_⟩
 ·have hi' : i < l.length := by simpa using h3
  conv => whnf
  refine .mk (by simp only [okI, Rw.rng] at *; first | omega | (simp_all; done) | (simp_all; omega)) ?_
  conv => whnf
  refine ⟨fun h4 => ?_, fun h4 => ?_⟩
  ·have h4' : (s == l.getD i 0) = true := by rw [show (s == l.getD i 0) = (l.getD i 0 == s) from Bool.beq_comm]; exact h4
   conv => whnf
   exact EndZ.bool (any_of_get (d := 0) hi' h4')
  ·have h4' : (s == l.getD i 0) = false := by rw [show (s == l.getD i 0) = (l.getD i 0 == s) from Bool.beq_comm]; exact h4
   conv => whnf
   refine .mk (by simp only [okI, Rw.rng] at *; first | omega | (simp_all; done) | (simp_all; omega)) ?_
   conv => whnf
   refine ⟨i + 1, ⟨by omega, ?_⟩, by omega, ⟨⟨_, rfl, rfl⟩, trivial⟩, ?_, rfl⟩
   ·rw [any_take (d := 0) hi' hall]; exact h4'
   ·repeat' (first | exact trivial | exact ⟨_, rfl, rfl⟩ | constructor)
 ·have hi' : l.length ≤ i := by simpa using h3
  rw [List.take_of_length_le hi'] at hall
  conv => whnf
  exact EndZ.bool hall
def placeI (n : Nat) (l : List Int) : Prop := ∀ q ∈ l, 0 ≤ q ∧ q < n
def outB (c l : List Int) : Bool := (List.range c.length).any fun i => decide (c.getD i 0 > 0) && !(inI l i)
end Go.Proofs.YtgokbcjkbdabnaaGreatDoor
namespace Go.Proofs.YtgokbcjkbdabnaaGreatDoor
open Go.Ab Go.Proofs
set_option maxRecDepth 100000
structure PlaceR (n : Nat) (r : Rule) : Prop where
 src : 0 ≤ r.fr ∧ r.fr < n
 dst : 0 ≤ r.to ∧ r.to < n
 psrc : 0 ≤ r.pfrom ∧ r.pfrom < n
 pdst : 0 ≤ r.pto ∧ r.pto < n
 rsp : r.kind = 3 → r.response.length = n ∧ placeI n r.response
 exs : placeI n r.ex
def okC (c : List Int) : Prop := ∀ x ∈ c, 0 ≤ x ∧ x ≤ 1048576
def addAt (c : List Int) (i d : Int) : List Int := c.set i.toNat (c.getD i.toNat 0 + d)
theorem lendI {h : Hz} {j : Nat} {Z : Nat → Prop} {l : List Int} (hz : Z j) (q : h.get j = some (.row Y.int 0 (.ints l) [])) : T.sub Z h.toHp (V.row 0 false (.ints l)).toT (V.own j).toT := by
 show T.sub Z h.toHp (.sl 0 false (l.map T.int)) (.own j)
 simp only [T.sub]
 refine ⟨trivial, hz, ?_, by decide, Y.int, ?_⟩
 ·rw [freeL_iff]; intro t ht; obtain ⟨x, _, rfl⟩ := List.mem_map.1 ht; rfl
 ·have := toHp_some q
  rw [this]; simp [OV.toOb, Rw.toL, V.toL]
theorem makeInts {n : Nat} (h : 0 < n) : (bif isZero (.int n) then some Rw.nil else repR (n : Int).toNat (T.int 0)) = some (.ints (List.replicate n 0)) := by
 cases n with
 | zero => omega
 | succ k => rfl
abbrev rowI (l : List Int) : OV := .row Y.int 0 (.ints l) []
end Go.Proofs.YtgokbcjkbdabnaaGreatDoor
namespace Go.Proofs.YtgokbcjkbdabnaaGreatDoor
open Go.Ab Go.Proofs
set_option maxRecDepth 100000
theorem okF {ρ : Nat → Nat} {nx pn c n : Nat} {h : Hz} {s : List Nat} {o o' : OV} (q1 : Nat.blt c nx = true) (q2 : Nat.blt c pn = true → n = c) (q3 : notIn n s = true) (q4 : (o.good nx && o.fre) = true) (q5 : h.get n = some o')
  (q6 : o'.toOb.ty = o.toOb.ty ∧ o'.toOb.k = o.toOb.k) (q7 : o.toOb.l = o'.toOb.l) : Nat.blt c nx = true ∧ (Nat.blt c pn = true → n = c) ∧ notIn n s = true ∧ o.good nx = true ∧
   ∃ o', h.get n = some o' ∧ o'.toOb.ty = o.toOb.ty ∧ o'.toOb.k = o.toOb.k ∧ SubA (T.renL ρ o.toOb.l) o'.toOb.l := by
 rw [Bool.and_eq_true] at q4
 exact ⟨q1, q2, q3, q4.1, o', q5, q6.1, q6.2, SubA.of_eq ((OV.fre_ren q4.2 ρ).trans q7)⟩
theorem bz {c : Bool} {a b : Int} (ha : c = true → a ≠ 0) (h : (bif c then a else b) = 0) : c = false ∧ b = 0 := by
 cases c with
 | true => exact absurd h (ha rfl)
 | false => exact ⟨rfl, h⟩
theorem nz {a : Int} (h : (a != 0) = true) : a ≠ 0 := by simpa using h
theorem first_zero : ∀ {l : List Int}, firstE l = 0 → ∀ x ∈ l, x = 0 := by
 intro l
 induction l with
 | nil => intro _ x h; cases h
 | cons a r ih =>
  intro h x hx
  simp only [firstE] at h
  split at h
  ·rename_i h0
   rcases List.mem_cons.1 hx with rfl | hx
   ·exact h0
   ·exact ih h x hx
  ·rename_i h0; exact absurd h h0
structure ValidF (p : Prot) : Prop where
 pos : 0 < p.states.length
 states : p.states.length ≤ 6
 values : p.values.length ≤ 3
 nrules : p.rules.length ≤ 8
 init : setE p.initial p.states.length = 0
 start : p.initial ≠ []
 rule : ∀ i, i < p.rules.length → ruleErr p i = 0
theorem validF {p : Prot} (h : validE p = 0) : ValidF p := by
 unfold validE at h
 obtain ⟨_, h⟩ := bz (fun _ => by decide) h
 obtain ⟨_, h⟩ := bz (fun _ => by decide) h
 obtain ⟨h0, h⟩ := bz (fun _ => by decide) h
 obtain ⟨h1, h⟩ := bz (fun _ => by decide) h
 obtain ⟨_, h⟩ := bz nz h
 obtain ⟨_, h⟩ := bz (fun _ => by decide) h
 obtain ⟨_, h⟩ := bz (fun _ => by decide) h
 obtain ⟨h2, h⟩ := bz nz h
 obtain ⟨h3, h⟩ := bz nz h
 have h2' : headE p = 0 := by simpa using h2
 have h3' : rulesE p = 0 := by simpa using h3
 have g := first_zero h2'
 simp only [largeP, Bool.or_eq_false_iff, decide_eq_false_iff_not] at h1
 refine ⟨?_, by omega, by omega, by omega, g _ (by simp), ?_, fun i hi => ?_⟩
 ·have : (p.states.length : Int) ≠ 0 := by simpa using h0
  omega
 ·intro e
  have := g (whenE ((p.initial.length : Int) == 0) 1) (by simp)
  rw [e] at this; exact absurd this (by decide)
 ·exact first_zero h3' _ (List.mem_map.2 ⟨i, by simpa using hi, rfl⟩)
theorem outE_no {x : Int} {n : Nat} (h : outE x n = false) : 0 ≤ x ∧ x < n := by
 simp only [outE, Bool.or_eq_false_iff, decide_eq_false_iff_not] at h; omega
theorem set_place {l : List Int} {n : Nat} (h : setE l n = 0) : placeI n l := by
 unfold setE at h
 obtain ⟨h, _⟩ := bz (fun _ => by decide) h
 rw [List.any_eq_false] at h
 exact fun q hq => outE_no (by simpa using h q hq)
structure RuleF (n : Nat) (p : Prot) (r : Rule) : Prop where
 place : PlaceR n r
 kind : r.kind = 1 ∨ r.kind = 2 ∨ r.kind = 3
 alls : placeI n r.all
 ex1 : r.kind ≠ 1 → r.ex = [] ∧ r.all = []
 rd : outE r.read p.values.length = false ∨ r.read = -1
 wr : outE r.write p.values.length = false ∨ r.write = -1
structure FamF (p : Prot) (e : Elem) : Prop where
 valid : ValidF p
 plain : plainE p = true
 len : e.counts.length = p.states.length
 nums : okC e.counts
 val : 0 ≤ e.value ∧ e.value < max 1 (p.values.length : Int)
theorem when_zero {b : Bool} {n : Int} (h : whenE b n = 0) (hn : n ≠ 0) : b = false := by
 cases b with
 | false => rfl
 | true => exact absurd h hn
theorem okN_iff {x : Int} : okN x = true ↔ 0 ≤ x ∧ x ≤ 1048576 := by simp [okN]
theorem addAt_len {c : List Int} {i d : Int} : (addAt c i d).length = c.length := by simp [addAt]
theorem CallZ.tidy {h : Hz} {i n : Nat} {l : List Elem} {K : V → Hz → Prop} (hi : h.get i = some (rowE l)) (hn : h.get n = none) (hl : l.length < 2^30) (hs : smallE l)
  (h1 : K (.own i) ((i, some (rowE (tidyE l))) :: h)) (h2 : ∀ m, K (.ovw i 0 (tidyE l).length) ((i, some (.row Y.api_Element 3 (.elems (tidyE l)) (List.replicate m zeroV))) :: h)) : CallZ Tryz.prog false none F.cover_tidy [.own i] h n K := by
 refine CallZ.place1 (ts := [.own 0]) (S.cover_tidy l 1 hl hs) rfl rfl rfl rfl hi hn ?_
 rintro t hp (⟨rfl, rfl⟩ | ⟨m, rfl, rfl⟩)
 ·exact .inl ⟨.own i, rowE (tidyE l), rfl, rfl, rfl, h1⟩
 ·exact .inl ⟨.ovw i 0 _, .row Y.api_Element 3 (.elems (tidyE l)) (List.replicate m zeroV), rfl, rep_fre _ _, rfl, h2 m⟩
theorem EndZ.pairN {h : Hz} {k : Nat} {c : Int} : EndZ (.tup [.row 3 false (.elems []), .int c]) (.tup [.row k true .nil, .int c]) h := ⟨by
 show T.sub (fun _ => True) h.toHp (.tup [.sl 3 false [], .int c]) (.tup [.sl k true [], .int c])
 simp [T.sub, T.subL]⟩
theorem lend1' {h : Hz} {j : Nat} {e : Elem} {Z : Nat → Prop} (hz : Z j) (q : h.get j = some (.row Y.api_Element 3 .nil [.dat (.elem e)])) : T.sub Z h.toHp (V.row 3 false (.elems [e])).toT (V.own j).toT := by
 show T.sub Z h.toHp (.sl 3 false [eElem e]) (.own j)
 simp only [T.sub]
 exact ⟨trivial, hz, rfl, by decide, Y.api_Element, toHp_some q⟩
theorem leqL_get {a b : List Int} (h : leqL a b = true) (i : Nat) : a.getD i 0 ≤ b.getD i 0 := by
 obtain ⟨h1, h2⟩ := leqL_iff.1 h
 by_cases hi : i < a.length
 ·exact h2 i hi
 ·rw [show a.getD i 0 = 0 by simp [List.getD_eq_getElem?_getD, List.getElem?_eq_none (by omega : a.length ≤ i)], show b.getD i 0 = 0 by simp [List.getD_eq_getElem?_getD, List.getElem?_eq_none (by omega : b.length ≤ i)]]
  exact Int.le_refl _
theorem addAt_get {c : List Int} {i d : Int} {j : Nat} : (addAt c i d).getD j 0 = if j = i.toNat ∧ j < c.length then c.getD j 0 + d else c.getD j 0 := by
 unfold addAt
 rw [List.getD_eq_getElem?_getD, List.getElem?_set]
 by_cases h : i.toNat = j
 ·subst h
  by_cases h2 : i.toNat < c.length
  ·simp [h2]
  ·simp [h2]
 ·rw [if_neg h, if_neg (fun q => h q.1.symm), List.getD_eq_getElem?_getD]
end Go.Proofs.YtgokbcjkbdabnaaGreatDoor
