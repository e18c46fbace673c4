/-
 A part of the proof. No condition.
-/
import Derived.Test.YtgokbcjkbdabnaaGreatDoorSb
import Derived.Test.YtgokbcjkbdabnaaGreatDoorLg
import Derived.Test.YtgokbcjkbdabnaaGreatDoorLe
import Derived.Test.YtgokbcjkbdabnaaGreatDoorSc
namespace Go.Proofs.YtgokbcjkbdabnaaGreatDoor
open Go.Ab Go.Proofs
set_option maxRecDepth 100000
def leqL : List Int → List Int → Bool
 | [], [] => true
 | x :: a, y :: b => decide (x ≤ y) && leqL a b
 | _, _ => false
def leqE (a b : Elem) : Bool := (a.value == b.value) && leqL a.counts b.counts
theorem leqL_iff : ∀ {a b : List Int}, leqL a b = true ↔ a.length = b.length ∧ ∀ j, j < a.length → a.getD j 0 ≤ b.getD j 0 := by
 intro a
 induction a with
 | nil => intro b; cases b <;> simp [leqL]
 | cons x a ih =>
  intro b
  cases b with
  | nil => simp [leqL]
  | cons y b =>
   simp only [leqL, Bool.and_eq_true, decide_eq_true_eq, ih, List.length_cons]
   constructor
   ·rintro ⟨h1, h2, h3⟩
    refine ⟨by omega, fun j hj => ?_⟩
    cases j with
    | zero => simpa using h1
    | succ j => simpa using h3 j (by omega)
   ·rintro ⟨h1, h2⟩
    exact ⟨by simpa using h2 0 (by omega), by omega, fun j hj => by simpa using h2 (j + 1) (by omega)⟩
theorem S.cover_Leq (a b : Elem) (ha : a.counts.length < 2^40) (hb : b.counts.length < 2^40) : SpecZ Tryz.prog F.cover_Leq [.dat (.elem a), .dat (.elem b)] (.bool (leqE a b)) := by
 refine SpecZ.of Bd.cover_Leq (by simp) rfl rfl ?_
 conv => whnf
 repeat (refine VC.mk (by first | exact fun h => h | exact fun h => ⟨h, h⟩ | (intro h; rw [h]; rfl)) ?_; conv => whnf)
 refine ⟨fun h1 => ?_, fun h1 => ?_⟩
 ·conv => whnf
  refine EndZ.bool ?_
  by_cases hv : a.value = b.value
  ·have : leqL a.counts b.counts = false := by
    rw [Bool.eq_false_iff]; intro h; rw [leqL_iff] at h; simp [hv, h.1] at h1
   simp [leqE, this]
  ·simp [leqE, hv]
 ·have h2 : a.value = b.value ∧ a.counts.length = b.counts.length := by
   by_cases hv : a.value = b.value
   ·simp [hv] at h1; exact ⟨hv, by omega⟩
   ·simp [hv] at h1
  conv => whnf
  refine LoopZ.same [3, 22, 23] (fun i : Nat => [(24, .int i)]) (fun i => i ≤ a.counts.length ∧ ∀ j, j < i → a.counts.getD j 0 ≤ b.counts.getD j 0) (fun i => a.counts.length - i) 0 rfl (by decide) rfl (fun _ => rfl) ⟨by omega, fun j hj => by omega⟩ ⟨⟨_, rfl, rfl⟩, trivial⟩ ?_
  conv => whnf
  refine ⟨rfl, ?_⟩
  rintro i ⟨hi, hall⟩
  conv => whnf
  refine ⟨fun h3 => ?_, fun h3 => ?_⟩
  ·have hi' : i < a.counts.length := by simpa using h3
   conv => whnf
   repeat (refine VC.mk (by simp only [okI, Rw.rng] at *; omega) ?_; conv => whnf)
   refine ⟨fun h4 => ?_, fun h4 => ?_⟩
   ·conv => whnf
    refine EndZ.bool ?_
    have : leqL a.counts b.counts = false := by
     rw [Bool.eq_false_iff]; intro h; rw [leqL_iff] at h; have := h.2 i hi'; simp only [Int.toNat_natCast, decide_eq_true_eq] at h4; omega
    simp [leqE, this]
   ·conv => whnf
    refine .mk (by simp only [okI, Rw.rng] at *; omega) ?_
    conv => whnf
    refine ⟨i + 1, ⟨by omega, fun j hj => ?_⟩, by omega, ⟨⟨_, rfl, rfl⟩, trivial⟩, ?_, rfl⟩
    ·by_cases e : j = i
     ·subst e; simp only [Int.toNat_natCast, decide_eq_false_iff_not] at h4; omega
     ·exact hall j (by omega)
    ·repeat' (first | exact trivial | exact ⟨_, rfl, rfl⟩ | constructor)
  ·conv => whnf
   refine EndZ.bool ?_
   have hi' : a.counts.length ≤ i := by simpa using h3
   simp only [leqE, Bool.and_eq_true, beq_iff_eq]
   rw [Bool.eq_iff_iff]; simp only [Bool.and_eq_true, beq_iff_eq, iff_true]
   exact ⟨h2.1, leqL_iff.2 ⟨h2.2, fun j hj => hall j (by omega)⟩⟩
def cmpI (a b : Int) : Int := if a < b then -1 else if b < a then 1 else 0
def cmpL : List Int → List Int → Int
 | [], [] => 0
 | [], _ :: _ => -1
 | _ :: _, [] => 1
 | x :: a, y :: b => if x < y then -1 else if y < x then 1 else cmpL a b
def cmpE (a b : Elem) : Int := if a.value < b.value then -1 else if b.value < a.value then 1 else cmpL a.counts b.counts
theorem drop_getD {α : Type} {l : List α} {i : Nat} (d : α) (h : i < l.length) : l.drop i = l.getD i d :: l.drop (i + 1) := by
 rw [List.drop_eq_getElem_cons h]; simp [h]
theorem cmpL_step {a b : List Int} {i : Nat} (ha : i < a.length) (hb : i < b.length) :
  cmpL (a.drop i) (b.drop i) = if a.getD i 0 < b.getD i 0 then -1 else if b.getD i 0 < a.getD i 0 then 1 else cmpL (a.drop (i + 1)) (b.drop (i + 1)) := by
 rw [drop_getD 0 ha, drop_getD 0 hb]; rfl
theorem cmpL_end {a b : List Int} {i : Nat} (hi : a.length ≤ i ∨ b.length ≤ i) (h1 : i ≤ a.length) (h2 : i ≤ b.length) :
  cmpL (a.drop i) (b.drop i) = if a.length < b.length then -1 else if b.length < a.length then 1 else 0 := by
 by_cases ha : a.length ≤ i
 ·have e : a.drop i = [] := List.drop_eq_nil_of_le ha
  rw [e]
  by_cases hb : b.length ≤ i
  ·rw [List.drop_eq_nil_of_le hb, if_neg (by omega), if_neg (by omega)]; rfl
  ·rw [drop_getD 0 (by omega), if_pos (by omega)]; rfl
 ·have hb : b.length ≤ i := by omega
  rw [List.drop_eq_nil_of_le hb, drop_getD 0 (by omega), if_neg (by omega), if_pos (by omega)]; rfl
theorem S.cmp_isNaN_int (a : Int) : SpecZ Tryz.prog F.cmp_isNaN_int [.int a] (.bool false) := by
 refine SpecZ.of Bd.cmp_isNaN_int (by simp) rfl rfl ?_
 conv => whnf
 refine EndZ.bool ?_
 simp
theorem S.cmp_Compare_int (a b : Int) : SpecZ Tryz.prog F.cmp_Compare_int [.int a, .int b] (.int (cmpI a b)) := by
 refine SpecZ.of Bd.cmp_Compare_int (by simp) rfl rfl ?_
 conv => whnf
 refine CallZ.pure (S.cmp_isNaN_int a) rfl ?_
 conv => whnf
 refine CallZ.pure (S.cmp_isNaN_int b) rfl ?_
 conv => whnf
 refine Fork.mk (fun h1 => by cases h1) (fun _ => ?_)
 conv => whnf
 refine Fork.mk (fun h1 => by cases h1) (fun _ => ?_)
 conv => whnf
 refine ⟨fun h1 => ?_, fun h1 => ?_⟩
 ·conv => whnf
  exact EndZ.int (by simp only [decide_eq_true_eq] at h1; simp [cmpI, h1])
 ·conv => whnf
  simp only [decide_eq_false_iff_not] at h1
  refine ⟨fun h2 => ?_, fun h2 => ?_⟩
  ·conv => whnf
   exact EndZ.int (by simp only [decide_eq_true_eq] at h2; simp [cmpI, h1, h2])
  ·conv => whnf
   exact EndZ.int (by simp only [decide_eq_false_iff_not] at h2; simp [cmpI, h1, h2])
theorem S.slices_Compare (a b : List Int) (ha : a.length < 2^40) (hb : b.length < 2^40) : SpecZ Tryz.prog F.slices_Compare_Lint_int [.row 0 false (.ints a), .row 0 false (.ints b)] (.int (cmpL a b)) := by
 refine SpecZ.of Bd.slices_Compare_Lint_int (by simp) rfl rfl ?_
 conv => whnf
 refine LoopZ.same [0, 1, 9, 10] (fun i : Nat => [(11, .int i)]) (fun i => i ≤ a.length ∧ i ≤ b.length ∧ cmpL a b = cmpL (a.drop i) (b.drop i)) (fun i => a.length - i) 0 rfl (by decide) rfl (fun _ => rfl) ⟨by omega, by omega, rfl⟩ ⟨⟨_, rfl, rfl⟩, trivial⟩ ?_
 conv => whnf
 refine ⟨rfl, ?_⟩
 rintro i ⟨hi, hj, he⟩
 conv => whnf
 refine ⟨fun h3 => ?_, fun h3 => ?_⟩
 ·have hi' : i < a.length := by simpa using h3
  conv => whnf
  refine .mk (by simp only [okI, Rw.rng] at *; omega) ?_
  conv => whnf
  refine ⟨fun h4 => ?_, fun h4 => ?_⟩
  ·conv => whnf
   have hb' : b.length ≤ i := by simpa using h4
   refine EndZ.int ?_
   rw [he, cmpL_end (.inr hb') hi hj, if_neg (by omega), if_pos (by omega)]
  ·have hb' : i < b.length := by simpa using h4
   conv => whnf
   refine .mk (by simp only [okI, Rw.rng] at *; omega) ?_
   conv => whnf
   refine CallZ.pure (S.cmp_Compare_int _ _) rfl ?_
   rw [cmpL_step hi' hb'] at he
   conv => whnf
   simp only [Int.toNat_natCast]
   refine ⟨fun h5 => ?_, fun h5 => ?_⟩
   ·conv => whnf
    refine EndZ.int ?_
    rw [he]
    simp only [bne_iff_ne, ne_eq, Int.toNat_natCast] at h5 ⊢
    generalize a.getD i 0 = x at h5 ⊢
    generalize b.getD i 0 = y at h5 ⊢
    unfold cmpI at h5 ⊢
    by_cases h6 : x < y
    ·simp [h6]
    ·by_cases h7 : y < x
     ·simp [h6, h7]
     ·simp [h6, h7] at h5
   ·conv => whnf
    refine .mk (by simp only [okI, Rw.rng] at *; omega) ?_
    conv => whnf
    have h6 : ¬ a.getD i 0 < b.getD i 0 ∧ ¬ b.getD i 0 < a.getD i 0 := by
     simp only [bne_eq_false_iff_eq, Int.toNat_natCast] at h5
     generalize a.getD i 0 = x at h5 ⊢
     generalize b.getD i 0 = y at h5 ⊢
     unfold cmpI at h5
     by_cases h6 : x < y
     ·simp [h6] at h5
     ·by_cases h7 : y < x
      ·simp [h6, h7] at h5
      ·exact ⟨h6, h7⟩
    refine ⟨i + 1, ⟨by omega, by omega, by rw [he, if_neg h6.1, if_neg h6.2]⟩, by omega, ⟨⟨_, rfl, rfl⟩, trivial⟩, ?_, rfl⟩
    repeat' (first | exact trivial | exact ⟨_, rfl, rfl⟩ | constructor)
 ·have hi' : a.length ≤ i := by simpa using h3
  conv => whnf
  refine ⟨fun h4 => ?_, fun h4 => ?_⟩
  ·conv => whnf
   refine EndZ.int ?_
   rw [he, cmpL_end (.inl hi') hi hj, if_pos (by simpa using h4)]
  ·conv => whnf
   refine EndZ.int ?_
   have : b.length ≤ a.length := by simpa using h4
   rw [he, cmpL_end (.inl hi') hi hj, if_neg (by omega), if_neg (by omega)]
theorem S.cmp_Or_int (x y : Int) (f : Bool) : SpecZ Tryz.prog F.cmp_Or_int [.row 0 f (.ints [x, y])] (.int (if x ≠ 0 then x else y)) := by
 refine SpecZ.of Bd.cmp_Or_int (by simp) rfl rfl ?_
 conv => whnf
 refine LoopZ.same [3, 6, 7] (fun i : Nat => [(8, .int i)]) (fun i => i ≤ 2 ∧ (0 < i → x = 0) ∧ (1 < i → y = 0)) (fun i => 2 - i) 0 rfl (by decide) rfl (fun _ => rfl) ⟨by omega, by omega, by omega⟩ ⟨⟨_, rfl, rfl⟩, trivial⟩ ?_
 conv => whnf
 refine ⟨rfl, ?_⟩
 rintro i ⟨hi, h0, h1⟩
 conv => whnf
 refine ⟨fun h3 => ?_, fun h3 => ?_⟩
 ·have hi' : i < 2 := by simp at h3; omega
  conv => whnf
  refine .mk (by simp only [Rw.rng, List.length_cons, List.length_nil]; omega) ?_
  conv => whnf
  refine ⟨fun h4 => ?_, fun h4 => ?_⟩
  ·conv => whnf
   refine EndZ.int ?_
   simp only [Int.toNat_natCast, bne_iff_ne, ne_eq] at h4 ⊢
   by_cases e : i = 0
   ·subst e; simp at h4 ⊢; simp [h4]
   ·have : i = 1 := by omega
    subst this; simp at h4 ⊢; simp [h0]
  ·conv => whnf
   refine .mk (by simp only [okI, Rw.rng] at *; omega) ?_
   conv => whnf
   refine ⟨i + 1, ⟨by omega, fun _ => ?_, fun hlt => ?_⟩, by omega, ⟨⟨_, rfl, rfl⟩, trivial⟩, ?_, rfl⟩
   ·by_cases e : i = 0
    ·subst e; simpa using h4
    ·exact h0 (by omega)
   ·have : i = 1 := by omega
    subst this; simpa using h4
   ·repeat' (first | exact trivial | exact ⟨_, rfl, rfl⟩ | constructor)
 ·have : i = 2 := by simp at h3; omega
  subst this
  conv => whnf
  refine EndZ.int ?_
  simp [h0, h1]
theorem S.cover_Compare (a b : Elem) (ha : a.counts.length < 2^40) (hb : b.counts.length < 2^40) : SpecZ Tryz.prog F.cover_Compare [.dat (.elem a), .dat (.elem b)] (.int (cmpE a b)) := by
 refine SpecZ.of Bd.cover_Compare (by simp) rfl rfl ?_
 conv => whnf
 refine CallZ.pure (S.cmp_Compare_int a.value b.value) rfl ?_
 conv => whnf
 refine CallZ.pure (S.slices_Compare a.counts b.counts ha hb) rfl ?_
 conv => whnf
 refine CallZ.pure (S.cmp_Or_int _ _ true) rfl ?_
 conv => whnf
 refine EndZ.int ?_
 unfold cmpE cmpI
 by_cases h6 : a.value < b.value
 ·simp [h6]
 ·by_cases h7 : b.value < a.value
  ·simp [h6, h7]
  ·simp [h6, h7]
def smallE (l : List Elem) : Prop := ∀ e ∈ l, e.counts.length < 2^40
theorem smallE.get {l : List Elem} (h : smallE l) (i : Nat) : (l.getD i default).counts.length < 2^40 := by
 rw [List.getD_eq_getElem?_getD]
 cases e : l[i]? with
 | none => show ([] : List Int).length < 2^40; decide
 | some x => exact h x (List.mem_of_getElem? e)
theorem any_take {α : Type} {l : List α} {p : α → Bool} {d : α} {i : Nat} (hi : i < l.length) (h : (l.take i).any p = false) : (l.take (i + 1)).any p = p (l.getD i d) := by
 rw [List.take_add_one, List.any_append, h, Bool.false_or]
 simp [hi]
theorem any_of_get {α : Type} {l : List α} {p : α → Bool} {d : α} {i : Nat} (hi : i < l.length) (h : p (l.getD i d) = true) : l.any p = true := by
 rw [List.any_eq_true]
 exact ⟨l[i], List.getElem_mem hi, by simpa [hi] using h⟩
theorem S.cover_Contains (l : List Elem) (e : Elem) (f : Bool) (hl : l.length < 2^40) (hs : smallE l) (he : e.counts.length < 2^40) : SpecZ Tryz.prog F.cover_Contains [.row 3 f (.elems l), .dat (.elem e)] (.bool (l.any fun b => leqE b e)) := by
 refine SpecZ.of Bd.cover_Contains (by simp) rfl rfl ?_
 conv => whnf
 refine LoopZ.same [3, 7, 8] (fun i : Nat => [(9, .int i)]) (fun i => i ≤ l.length ∧ (l.take i).any (fun b => leqE b e) = false) (fun i => l.length - i) 0 rfl (by decide) rfl (fun _ => rfl) ⟨by omega, by simp⟩ ⟨⟨_, rfl, rfl⟩, trivial⟩ ?_
 conv => whnf
 refine ⟨rfl, ?_⟩
 rintro i ⟨hi, hall⟩
 conv => whnf
 refine ⟨fun h3 => ?_, fun h3 => ?_⟩
 ·have hi' : i < l.length := by simpa using h3
  conv => whnf
  refine .mk (by simp only [okI, Rw.rng] at *; omega) ?_
  conv => whnf
  refine CallZ.pure (S.cover_Leq _ _ (by simpa using hs.get i) he) rfl ?_
  conv => whnf
  refine ⟨fun h4 => ?_, fun h4 => ?_⟩
  ·conv => whnf
   refine EndZ.bool ?_
   simp only [Int.toNat_natCast] at h4
   exact any_of_get hi' h4
  ·conv => whnf
   refine .mk (by simp only [okI, Rw.rng] at *; omega) ?_
   conv => whnf
   simp only [Int.toNat_natCast] at h4
   refine ⟨i + 1, ⟨by omega, by rw [any_take hi' hall]; exact h4⟩, by omega, ⟨⟨_, rfl, rfl⟩, trivial⟩, ?_, rfl⟩
   repeat' (first | exact trivial | exact ⟨_, rfl, rfl⟩ | constructor)
 ·conv => whnf
  refine EndZ.bool ?_
  have hi' : l.length ≤ i := by simpa using h3
  rw [List.take_of_length_le hi'] at hall; exact hall
theorem S.r05_Lists (a b : List Int) (ha : a.length < 2^40) (hb : b.length < 2^40) : SpecZ Tryz.prog F.r05_Lists [.row 0 false (.ints a), .row 0 false (.ints b)] (.int (cmpL a b)) := by
 refine SpecZ.of Bd.r05_Lists (by simp) rfl rfl ?_
 conv => whnf
 refine LoopZ.same [0, 1] (fun i : Nat => [(5, .int i)]) (fun i => i ≤ a.length ∧ i ≤ b.length ∧ cmpL a b = cmpL (a.drop i) (b.drop i)) (fun i => a.length - i) 0 rfl (by decide) rfl (fun _ => rfl) ⟨by omega, by omega, rfl⟩ ⟨⟨_, rfl, rfl⟩, trivial⟩ ?_
 conv => whnf
 refine ⟨rfl, ?_⟩
 rintro i ⟨hi, hj, he⟩
 conv => whnf
 repeat (refine VC.mk (by first | exact fun h => h | exact fun h => ⟨h, h⟩) ?_; conv => whnf)
 refine ⟨fun h3 => ?_, fun h3 => ?_⟩
 ·have hi' : i < a.length ∧ i < b.length := by
   by_cases h : i < a.length
   ·simp [h] at h3; exact ⟨h, by omega⟩
   ·simp [h] at h3
  rw [cmpL_step hi'.1 hi'.2] at he
  obtain ⟨hi1, hi2⟩ := hi'
  conv => whnf
  repeat (refine VC.mk (by simp only [okI, Rw.rng] at *; omega) ?_; conv => whnf)
  refine ⟨fun h5 => ?_, fun h5 => ?_⟩
  ·conv => whnf
   refine EndZ.int ?_
   simp only [Int.toNat_natCast, decide_eq_true_eq] at h5
   rw [he, if_pos h5]
  ·conv => whnf
   repeat (refine VC.mk (by simp only [okI, Rw.rng] at *; omega) ?_; conv => whnf)
   simp only [Int.toNat_natCast, decide_eq_false_iff_not] at h5
   refine ⟨fun h6 => ?_, fun h6 => ?_⟩
   ·conv => whnf
    refine EndZ.int ?_
    simp only [Int.toNat_natCast, decide_eq_true_eq] at h6
    rw [he, if_neg h5, if_pos h6]
   ·conv => whnf
    refine .mk (by simp only [okI, Rw.rng] at *; omega) ?_
    conv => whnf
    simp only [Int.toNat_natCast, decide_eq_false_iff_not] at h6
    refine ⟨i + 1, ⟨by omega, by omega, by rw [he, if_neg h5, if_neg h6]⟩, by omega, ⟨⟨_, rfl, rfl⟩, trivial⟩, ?_, rfl⟩
    repeat' (first | exact trivial | exact ⟨_, rfl, rfl⟩ | constructor)
 ·have hi' : a.length ≤ i ∨ b.length ≤ i := by
   by_cases h : i < a.length
   ·simp [h] at h3; exact .inr (by omega)
   ·exact .inl (by omega)
  have hx := cmpL_end hi' hi hj
  rw [← he] at hx
  conv => whnf
  refine ⟨fun h4 => ?_, fun h4 => ?_⟩
  ·conv => whnf
   refine EndZ.int ?_
   rw [hx, if_pos (by simpa using h4)]
  ·conv => whnf
   have h5 : ¬ a.length < b.length := by simpa using h4
   refine ⟨fun h6 => ?_, fun h6 => ?_⟩
   ·conv => whnf
    refine EndZ.int ?_
    rw [hx, if_neg h5, if_pos (by simpa using h6)]
   ·conv => whnf
    refine EndZ.int ?_
    rw [hx, if_neg h5, if_neg (by simpa using h6)]
theorem S.r05_Compare (a b : Elem) (ha : a.counts.length < 2^40) (hb : b.counts.length < 2^40) : SpecZ Tryz.prog F.r05_Compare [.dat (.elem a), .dat (.elem b)] (.int (cmpE a b)) := by
 refine SpecZ.of Bd.r05_Compare (by simp) rfl rfl ?_
 conv => whnf
 refine ⟨fun h1 => ?_, fun h1 => ?_⟩
 ·conv => whnf
  exact EndZ.int (by simp only [decide_eq_true_eq] at h1; simp [cmpE, h1])
 ·conv => whnf
  simp only [decide_eq_false_iff_not] at h1
  refine ⟨fun h2 => ?_, fun h2 => ?_⟩
  ·conv => whnf
   exact EndZ.int (by simp only [decide_eq_true_eq] at h2; simp [cmpE, h1, h2])
  ·simp only [decide_eq_false_iff_not] at h2
   conv => whnf
   refine CallZ.pure (S.r05_Lists a.counts b.counts ha hb) rfl ?_
   conv => whnf
   exact EndZ.int (by simp [cmpE, h1, h2])
theorem cmpL_eq : ∀ {a b : List Int}, cmpL a b = 0 ↔ a = b := by
 intro a
 induction a with
 | nil => intro b; cases b <;> simp [cmpL]
 | cons x a ih =>
  intro b
  cases b with
  | nil => simp [cmpL]
  | cons y b =>
   simp only [cmpL]
   split
   ·simp; omega
   ·split
    ·simp; omega
    ·rw [ih]; simp; intro _; omega
theorem cmpE_eq {a b : Elem} : cmpE a b = 0 ↔ a = b := by
 obtain ⟨v, c⟩ := a; obtain ⟨w, d⟩ := b
 simp only [cmpE]
 split
 ·simp; omega
 ·split
  ·simp; omega
  ·rw [cmpL_eq]; simp; intro _; omega
theorem S.r05_Same (a b : List Elem) (f g : Bool) (ha : a.length < 2^40) (hb : b.length < 2^40) (sa : smallE a) (sb : smallE b) : SpecZ Tryz.prog F.r05_Same [.row 3 f (.elems a), .row 3 g (.elems b)] (.bool (decide (a = b))) := by
 refine SpecZ.of Bd.r05_Same (by simp) rfl rfl ?_
 conv => whnf
 refine ⟨fun h1 => ?_, fun h1 => ?_⟩
 ·conv => whnf
  refine EndZ.bool ?_
  refine decide_eq_false ?_
  simp at h1
  rintro rfl; exact h1 rfl
 ·have hlen : a.length = b.length := by simp at h1; omega
  conv => whnf
  refine LoopZ.same [0, 1] (fun i : Nat => [(5, .int i)]) (fun i => i ≤ a.length ∧ a.take i = b.take i) (fun i => a.length - i) 0 rfl (by decide) rfl (fun _ => rfl) ⟨by omega, by simp⟩ ⟨⟨_, rfl, rfl⟩, trivial⟩ ?_
  conv => whnf
  refine ⟨rfl, ?_⟩
  rintro i ⟨hi, hall⟩
  conv => whnf
  refine ⟨fun h3 => ?_, fun h3 => ?_⟩
  ·have hi' : i < a.length := by simpa using h3
   conv => whnf
   repeat (refine VC.mk (by simp only [okI, Rw.rng] at *; omega) ?_; conv => whnf)
   refine CallZ.pure (S.r05_Compare _ _ (by simpa using sa.get i) (by simpa using sb.get i)) rfl ?_
   conv => whnf
   refine ⟨fun h4 => ?_, fun h4 => ?_⟩
   ·conv => whnf
    refine EndZ.bool ?_
    refine decide_eq_false ?_
    rintro rfl
    simp only [Int.toNat_natCast, bne_iff_ne, ne_eq] at h4
    exact h4 (cmpE_eq.2 rfl)
   ·conv => whnf
    refine .mk (by simp only [okI, Rw.rng] at *; omega) ?_
    conv => whnf
    simp only [Int.toNat_natCast, bne_eq_false_iff_eq] at h4
    rw [cmpE_eq] at h4
    refine ⟨i + 1, ⟨by omega, ?_⟩, by omega, ⟨⟨_, rfl, rfl⟩, trivial⟩, ?_, rfl⟩
    ·rw [List.take_add_one, List.take_add_one, hall]
     congr 1
     have hb' : i < b.length := by omega
     simp only [List.getD_eq_getElem?_getD, List.getElem?_eq_getElem hi', List.getElem?_eq_getElem hb', Option.getD_some] at h4
     simp [hi', hb', h4]
    ·repeat' (first | exact trivial | exact ⟨_, rfl, rfl⟩ | constructor)
  ·conv => whnf
   refine EndZ.bool ?_
   have hi' : a.length ≤ i := by simpa using h3
   rw [List.take_of_length_le hi', List.take_of_length_le (by omega)] at hall
   symm; simpa using hall
def wideL (l : List Elem) : Bool := decide (60 < l.length) || l.any fun e => decide (8 < e.counts.length)
theorem S.law05_wide (l : List Elem) (f : Bool) (hl : l.length < 2^40) (hs : smallE l) : SpecZ Tryz.prog F.law05_wide [.row 3 f (.elems l)] (.bool (wideL l)) := by
 refine SpecZ.of Bd.law05_wide (by simp) rfl rfl ?_
 conv => whnf
 refine ⟨fun h1 => ?_, fun h1 => ?_⟩
 ·conv => whnf
  refine EndZ.bool ?_
  have : 60 < l.length := by simp at h1; omega
  simp [wideL, this]
 ·conv => whnf
  have h60 : ¬ 60 < l.length := by simp at h1; omega
  refine LoopZ.same [0] (fun i : Nat => [(3, .int i)]) (fun i => i ≤ l.length ∧ (l.take i).any (fun e => decide (8 < e.counts.length)) = false) (fun i => l.length - i) 0 rfl (by decide) rfl (fun _ => rfl) ⟨by omega, by simp⟩ ⟨⟨_, rfl, rfl⟩, trivial⟩ ?_
  conv => whnf
  refine ⟨rfl, ?_⟩
  rintro i ⟨hi, hall⟩
  conv => whnf
  refine ⟨fun h3 => ?_, fun h3 => ?_⟩
  ·have hi' : i < l.length := by simpa using h3
   conv => whnf
   refine .mk (by simp only [okI, Rw.rng] at *; omega) ?_
   conv => whnf
   refine ⟨fun h4 => ?_, fun h4 => ?_⟩
   ·conv => whnf
    refine EndZ.bool ?_
    simp only [Int.toNat_natCast] at h4
    have h5 : (l.any fun e => decide (8 < e.counts.length)) = true := any_of_get (d := default) hi' (by simp only [decide_eq_true_eq] at h4 ⊢; omega)
    simp [wideL, h5]
   ·conv => whnf
    refine .mk (by simp only [okI, Rw.rng] at *; omega) ?_
    conv => whnf
    simp only [Int.toNat_natCast] at h4
    refine ⟨i + 1, ⟨by omega, by rw [any_take (d := default) hi' hall]; simp only [decide_eq_false_iff_not] at h4 ⊢; omega⟩, by omega, ⟨⟨_, rfl, rfl⟩, trivial⟩, ?_, rfl⟩
    repeat' (first | exact trivial | exact ⟨_, rfl, rfl⟩ | constructor)
  ·conv => whnf
   refine EndZ.bool ?_
   have hi' : l.length ≤ i := by simpa using h3
   rw [List.take_of_length_le hi'] at hall
   simp only [wideL, hall, Bool.or_false]
   simp only [h60, decide_false]
def okN (n : Int) : Bool := decide (0 ≤ n) && decide (n ≤ 1048576)
theorem S.cover_inRange (l : List Int) (f : Bool) (hl : l.length < 2^40) : SpecZ Tryz.prog F.cover_inRange [.row 0 f (.ints l)] (.bool (l.all okN)) := by
 refine SpecZ.of Bd.cover_inRange (by simp) rfl rfl ?_
 conv => whnf
 refine LoopZ.same [5, 6] (fun i : Nat => [(7, .int i)]) (fun i => i ≤ l.length ∧ (l.take i).all okN = true) (fun i => l.length - i) 0 rfl (by decide) rfl (fun _ => rfl) ⟨by omega, by simp⟩ ⟨⟨_, rfl, rfl⟩, trivial⟩ ?_
 conv => whnf
 refine ⟨rfl, ?_⟩
 rintro i ⟨hi, hall⟩
 conv => whnf
 refine ⟨fun h3 => ?_, fun h3 => ?_⟩
 ·have hi' : i < l.length := by simpa using h3
  conv => whnf
  repeat (refine VC.mk (by first | exact fun h => h | (intro h; rw [h]; rfl) | (simp only [okI, Rw.rng] at *; omega)) ?_; conv => whnf)
  refine ⟨fun h4 => ?_, fun h4 => ?_⟩
  ·conv => whnf
   refine EndZ.bool ?_
   simp only [Int.toNat_natCast] at h4
   have h5 : okN (l.getD i 0) = false := by
    have key : ∀ x : Int, (decide (x < 0) || decide (1048576 < x)) = true → okN x = false := by
     intro x h4
     unfold okN
     by_cases h0 : x < 0
     ·simp; omega
     ·simp [h0] at h4; simp; omega
    exact key _ h4
   rw [Bool.eq_false_iff]
   intro h
   rw [List.all_eq_true] at h
   have := h l[i] (List.getElem_mem hi')
   rw [show l.getD i 0 = l[i] by simp [hi']] at h5
   rw [this] at h5; cases h5
  ·conv => whnf
   refine .mk (by simp only [okI, Rw.rng] at *; omega) ?_
   conv => whnf
   simp only [Int.toNat_natCast] at h4
   refine ⟨i + 1, ⟨by omega, ?_⟩, by omega, ⟨⟨_, rfl, rfl⟩, trivial⟩, ?_, rfl⟩
   ·have h5 : okN (l.getD i 0) = true := by
     have key : ∀ x : Int, (decide (x < 0) || decide (1048576 < x)) = false → okN x = true := by
      intro x h4
      unfold okN
      by_cases h0 : x < 0
      ·simp [h0] at h4
      ·simp [h0] at h4; simp; omega
     exact key _ h4
    rw [List.take_add_one, List.all_append, hall]
    simpa [hi'] using h5
   ·repeat' (first | exact trivial | exact ⟨_, rfl, rfl⟩ | constructor)
 ·conv => whnf
  refine EndZ.bool ?_
  have hi' : l.length ≤ i := by simpa using h3
  rw [List.take_of_length_le hi'] at hall; exact hall
def totE (e : Elem) : Int := if 6 < e.counts.length then 0 else if e.counts.all okN = true then e.counts.sum else 0
theorem sum_bound : ∀ {l : List Int}, l.all okN = true → 0 ≤ l.sum ∧ l.sum ≤ l.length * 1048576 := by
 intro l
 induction l with
 | nil => intro _; simp
 | cons x l ih =>
  intro h
  simp only [List.all_cons, Bool.and_eq_true, okN, decide_eq_true_eq] at h
  have := ih h.2
  simp only [List.sum_cons, List.length_cons]
  omega
theorem all_take {l : List Int} (h : l.all okN = true) (i : Nat) : (l.take i).all okN = true := by
 rw [List.all_eq_true] at h ⊢
 exact fun x hx => h x (List.mem_of_mem_take hx)
theorem sum_take {l : List Int} {i : Nat} (hi : i < l.length) : (l.take (i + 1)).sum = (l.take i).sum + l.getD i 0 := by
 rw [List.take_add_one, List.sum_append]; simp [hi]
theorem S.cover_Total (e : Elem) (hl : e.counts.length < 2^40) : SpecZ Tryz.prog F.cover_Total [.dat (.elem e)] (.int (totE e)) := by
 refine SpecZ.of Bd.cover_Total (by simp) rfl rfl ?_
 conv => whnf
 repeat (refine VC.mk (by exact fun h => h) ?_; conv => whnf)
 refine CallZ.pureG (fun _ => S.cover_inRange e.counts false hl) rfl ?_
 conv => whnf
 repeat (refine VC.mk (by first | exact fun h => h | (intro h; rw [h]; rfl)) ?_; conv => whnf)
 refine ⟨fun h1 => ?_, fun h1 => ?_⟩
 ·conv => whnf
  refine EndZ.int ?_
  unfold totE
  by_cases h : 6 < e.counts.length
  ·rw [if_pos h]
  ·rw [if_neg h, if_neg]
   have h' : ¬ (6 : Int) < e.counts.length := by omega
   simp [h'] at h1
   intro hh
   rw [List.all_eq_true] at hh
   obtain ⟨x, hx, hx'⟩ := h1
   exact absurd (hh x hx) (by simp [hx'])
 ·have h2 : ¬ 6 < e.counts.length ∧ e.counts.all okN = true := by
   by_cases h : (6 : Int) < e.counts.length
   ·simp [h] at h1
   ·simp [h] at h1
    exact ⟨by omega, by rw [List.all_eq_true]; exact h1⟩
  conv => whnf
  refine LoopZ.same [17, 18] (fun i : Nat => [(19, .int i), (3, .int (e.counts.take i).sum)]) (fun i => i ≤ e.counts.length) (fun i => e.counts.length - i) 0 rfl (by decide) rfl (fun _ => rfl) (by omega) ⟨⟨_, rfl, rfl⟩, ⟨_, rfl, rfl⟩, trivial⟩ ?_
  conv => whnf
  refine ⟨rfl, ?_⟩
  rintro i hi
  have hb := sum_bound (all_take h2.2 i)
  have hb' : ((e.counts.take i).length : Int) ≤ 6 := by simp; omega
  conv => whnf
  refine ⟨fun h3 => ?_, fun h3 => ?_⟩
  ·have hi' : i < e.counts.length := by simpa using h3
   have hs := sum_take hi'
   have hc := sum_bound (all_take h2.2 (i + 1))
   have hc' : ((e.counts.take (i + 1)).length : Int) ≤ 6 := by simp; omega
   conv => whnf
   repeat (refine VC.mk (by first | (simp only [okI, Int.toNat_natCast] at *; rw [← hs]; omega) | (simp only [okI, Rw.rng] at *; omega)) ?_; conv => whnf)
   refine ⟨i + 1, by omega, by omega, ⟨⟨_, rfl, rfl⟩, ⟨_, rfl, ?_⟩, trivial⟩, ?_, rfl⟩
   ·rw [hs]; simp [V.toT, cndV]
   ·repeat' (first | exact trivial | exact ⟨_, rfl, rfl⟩ | constructor)
  ·conv => whnf
   refine EndZ.int ?_
   have hi' : e.counts.length ≤ i := by simpa using h3
   rw [List.take_of_length_le hi']
   simp [totE, h2.1, h2.2]
def abvE (x y : Elem) : Bool := leqE y x && (cmpE y x != 0)
theorem S.cover_tidy_c1 (a b : Elem) (ha : a.counts.length < 2^40) (hb : b.counts.length < 2^40) : SpecZ Tryz.prog F.cover_tidy_c1 [.dat (.elem a), .dat (.elem b)] (.bool (decide (a = b))) := by
 refine SpecZ.of Bd.cover_tidy_c1 (by simp) rfl rfl ?_
 conv => whnf
 refine CallZ.pure (S.cover_Compare a b ha hb) rfl ?_
 conv => whnf
 refine EndZ.bool ?_
 rw [Bool.eq_iff_iff]; simp only [decide_eq_true_eq, beq_iff_eq]
 exact cmpE_eq.symm
theorem CallZ.lend {P : Program} {dr : Bool} {f : FuncId} {args args' : List V} {res : V} {h : Hz} {n : Nat} {K : V → Hz → Prop} (S : SpecZ P f args' res) (hs : T.subL (fun _ => True) h.toHp (V.toL args') (V.toL args)) (hh : res.toT.hard = true) (hr : res.free = true) (hK : K res h) : CallZ P dr none f args h n K :=
 ⟨AFn.lend S hs hh (fun _ e => by cases e) ⟨res, h, rfl, rfl, fun _ => ⟨rfl, V.free_toT res hr⟩, hK⟩⟩
theorem elems_free (l : List Elem) : T.freeL (l.map eElem) = true := by
 rw [freeL_iff]; intro t ht; obtain ⟨x, _, rfl⟩ := List.mem_map.1 ht; rfl
theorem SubA.of_eq {a b : List T} (h : a = b) : SubA a b := by subst h; exact .refl _
theorem CallZ.lendG {P : Program} {dr b : Bool} {f : FuncId} {args args' : List V} {res : V} {h : Hz} {n : Nat} {K : V → Hz → Prop} (S : b = true → SpecZ P f args' res) (hs : b = true → T.subL (fun _ => True) h.toHp (V.toL args') (V.toL args)) (hh : res.toT.hard = true) (hr : res.free = true) (hK : K res h) : CallZ P dr (some b) f args h n K :=
 ⟨res, fun e => AFn.lend (S e) (hs e) hh (fun _ e => by cases e) ⟨rfl, rfl⟩, hr, hK⟩
abbrev rowE (l : List Elem) : OV := .row Y.api_Element 3 (.elems l) []
abbrev h1 (l : List Elem) : Hz := [(0, some (rowE l))]
theorem get_h1 {l : List Elem} {n : Nat} (hn : 0 < n) : Hz.get n (h1 l) = none := by
 show (bif Nat.beq 0 n then some (rowE l) else none) = none
 rw [beq_c, if_neg (by omega)]
theorem lendE {h : Hz} {j : Nat} {l : List Elem} {Z : Nat → Prop} (hz : Z j) (q : h.get j = some (rowE l)) : T.sub Z h.toHp (V.row 3 false (.elems l)).toT (V.own j).toT := by
 show T.sub Z h.toHp (.sl 3 false (l.map eElem)) (.own j)
 simp only [T.sub]
 refine ⟨trivial, hz, elems_free l, by decide, Y.api_Element, ?_⟩
 have := toHp_some q; simpa [OV.toOb, Rw.toL, V.toL] using this
theorem EndZ.ownE {h : Hz} {j : Nat} {l : List Elem} (q : h.get j = some (rowE l)) : EndZ (.row 3 false (.elems l)) (.own j) h := ⟨lendE trivial q⟩
def keepE (out : List Elem) (x : Elem) : List Elem := if (out.any fun b => leqE b x) = true then out else out ++ [x]
theorem foldl_take {α β : Type} (f : β → α → β) (b : β) {l : List α} {i : Nat} (d : α) (h : i < l.length) : (l.take (i + 1)).foldl f b = f ((l.take i).foldl f b) (l.getD i d) := by
 rw [List.take_add_one, List.foldl_append]; simp [h]
theorem keepE_len {l : List Elem} {e : Elem} : (keepE l e).length ≤ l.length + 1 := by
 unfold keepE; split
 ·omega
 ·simp
theorem keep_len : ∀ (l acc : List Elem), (l.foldl keepE acc).length ≤ acc.length + l.length := by
 intro l
 induction l with
 | nil => intro acc; simp
 | cons x l ih => intro acc; simp only [List.foldl_cons, List.length_cons]; have := ih (keepE acc x); have := keepE_len (l := acc) (e := x); omega
theorem keep_mem : ∀ (l acc : List Elem) (x : Elem), x ∈ l.foldl keepE acc → x ∈ acc ∨ x ∈ l := by
 intro l
 induction l with
 | nil => intro acc x h; exact .inl h
 | cons y l ih =>
  intro acc x h
  simp only [List.foldl_cons] at h
  rcases ih _ _ h with h | h
  ·unfold keepE at h; split at h
   ·exact .inl h
   ·simp only [List.mem_append, List.mem_singleton] at h
    rcases h with h | h
    ·exact .inl h
    ·exact .inr (by simp [h])
  ·exact .inr (by simp [h])
theorem small_keep {l : List Elem} (h : smallE l) (i : Nat) : smallE ((l.take i).foldl keepE []) := fun x hx => by
 rcases keep_mem _ _ _ hx with h' | h'
 ·cases h'
 ·exact h x (List.mem_of_mem_take h')
def smallF (l : List Elem) : Prop := ∀ e ∈ l, e.counts.length < 2^30
theorem smallF.e {l : List Elem} (h : smallF l) : smallE l := fun e he => by have := h e he; omega
def ddI (l : List Elem) : Nat → List Elem
 | 0 => []
 | n + 1 => if n = 0 ∨ l.getD n default ≠ l.getD (n - 1) default then ddI l n ++ [l.getD n default] else ddI l n
theorem ddI_len (l : List Elem) : ∀ n, (ddI l n).length ≤ n := by
 intro n
 induction n with
 | zero => exact Nat.le_refl _
 | succ n ih =>
  simp only [ddI]; split
  ·simp; omega
  ·omega
theorem ddI_mem {l : List Elem} {x : Elem} : ∀ {n}, x ∈ ddI l n → n ≤ l.length → x ∈ l := by
 intro n
 induction n with
 | zero => intro h; cases h
 | succ n ih =>
  intro h hn
  simp only [ddI] at h
  split at h
  ·rcases List.mem_append.1 h with h | h
   ·exact ih h (by omega)
   ·rw [List.mem_singleton] at h; subst h
    simp [show n < l.length by omega]
  ·exact ih h (by omega)
abbrev zeroV : V := .agg [.int 0, .row 0 true .nil]
def mid (l : List Elem) (j : Nat) : List Elem := ddI l j ++ l.drop (ddI l j).length
theorem mid_len {l : List Elem} {j : Nat} (h : j ≤ l.length) : (mid l j).length = l.length := by
 have := ddI_len l j
 simp [mid]; omega
theorem mid_get {l : List Elem} {j i : Nat} (h : (ddI l j).length ≤ i) : (mid l j).getD i default = l.getD i default := by
 unfold mid
 rw [List.getD_eq_getElem?_getD, List.getElem?_append_right h, List.getElem?_drop, List.getD_eq_getElem?_getD]
 congr 2; omega
theorem mid_set {l : List Elem} {j : Nat} (hj : j < l.length) (h : j = 0 ∨ l.getD j default ≠ l.getD (j - 1) default) : (mid l j).set (ddI l j).length (l.getD j default) = mid l (j + 1) := by
 have hl := ddI_len l j
 have e : ddI l (j + 1) = ddI l j ++ [l.getD j default] := by simp only [ddI]; rw [if_pos h]
 unfold mid
 rw [e, List.set_append_right _ _ (Nat.le_refl _), Nat.sub_self, drop_getD default (show (ddI l j).length < l.length by omega)]
 simp
theorem mid_skip {l : List Elem} {j : Nat} (h0 : j ≠ 0) (h : l.getD j default = l.getD (j - 1) default) : ddI l (j + 1) = ddI l j := by
 simp only [ddI]; rw [if_neg]; intro q; rcases q with q | q
 ·exact h0 q
 ·exact q h
theorem ddI_take {l : List Elem} {k : Nat} (hk : k ≤ l.length) (h : ∀ i, 0 < i → i < k → l.getD i default ≠ l.getD (i - 1) default) : ddI l k = l.take k := by
 induction k with
 | zero => rfl
 | succ k ih =>
  simp only [ddI]
  rw [if_pos, ih (by omega) fun i h1 h2 => h i h1 (by omega), List.take_add_one]
  ·simp [show k < l.length by omega]
  ·by_cases h0 : k = 0
   ·exact .inl h0
   ·exact .inr (h k (by omega) (by omega))
theorem rep_good (l : List Elem) (m nx : Nat) : (OV.row Y.api_Element 3 (.elems l) (List.replicate m zeroV)).good nx = true := by
 have h1 : kdL 3 (List.replicate m zeroV) = true := by
  induction m with
  | zero => rfl
  | succ m ih => simp only [List.replicate_succ, kdL, ih, Bool.and_true]; rfl
 have h2 : T.ltL nx (V.toL (List.replicate m zeroV)) = true := by
  clear h1
  induction m with
  | zero => rfl
  | succ m ih => simp only [List.replicate_succ, V.toL, T.ltL, ih, Bool.and_true]; rfl
 simp only [OV.good, h1, h2]; rfl
theorem rep_fre (l : List Elem) (m : Nat) : (OV.row Y.api_Element 3 (.elems l) (List.replicate m zeroV)).fre = true := by
 simp only [OV.fre]
 induction m with
 | zero => rfl
 | succ m ih => simp only [List.replicate_succ, V.freeL, ih, Bool.and_true]; rfl
def compE (l : List Elem) : List Elem := ddI l l.length
theorem S.CompactFunc (l : List Elem) (n : Nat) (hl : l.length < 2^30) (hs : smallE l) :
  ACalls Tryz.prog F.slices_CompactFunc_Lapi_Element_api_Element (V.toL [.own 0, .fn F.cover_tidy_c1 []]) (h1 l).toHp n
   (fun t hp => (compE l = l ∧ t = .own 0 ∧ hp = (h1 l).toHp) ∨ (∃ m, t = .ovw 0 0 (compE l).length ∧ hp = Hz.toHp [(0, some (.row Y.api_Element 3 (.elems (compE l)) (List.replicate m zeroV)))])) := by
 refine SpecI.of (nx := 1) Bd.slices_CompactFunc_Lapi_Element_api_Element (by simp) ⟨_, _, .inr ⟨0, rfl, rfl⟩⟩ rfl rfl ?_
 conv => whnf
 refine ⟨fun h1 => ?_, fun h1 => ?_⟩
 ·conv => whnf
  have hc : compE l = l := by
   have h2 : l.length < 2 := by simp at h1; omega
   rw [compE, ddI_take (Nat.le_refl _) (fun i h3 h4 => by omega), List.take_length]
  exact EndI.one (c := 0) (j := 0) (o := rowE l) (t := .own 0) rfl rfl rfl (fun _ => rfl) (.inl rfl) rfl (.eq rfl) (.inl ⟨hc, rfl, rfl⟩)
 ·have h2 : 2 ≤ l.length := by simp at h1; omega
  conv => whnf
  refine LoopZ.same [0, 1] (fun i : Nat => [(5, .int i)]) (fun i => 1 ≤ i ∧ i ≤ l.length ∧ ∀ k, 0 < k → k < i → l.getD k default ≠ l.getD (k - 1) default) (fun i => l.length - i) 1 rfl (by decide) rfl (fun _ => rfl) ⟨by omega, by omega, fun k h3 h4 => by omega⟩ ⟨⟨_, rfl, rfl⟩, trivial⟩ ?_
  conv => whnf
  refine ⟨rfl, ?_⟩
  rintro k ⟨hk0, hk, hne⟩
  have e1 : ((k : Int) - 1).toNat = k - 1 := by omega
  conv => whnf
  refine ⟨fun h3 => ?_, fun h3 => ?_⟩
  ·have hk' : k < l.length := by simpa using h3
   conv => whnf
   repeat (refine VC.mk (by simp only [okI, Rw.rng]; omega) ?_; conv => whnf)
   refine CallZ.pure (S.cover_tidy_c1 _ _ (hs.get _) (hs.get _)) rfl ?_
   conv => whnf
   refine ⟨fun h4 => ?_, fun h4 => ?_⟩
   ·have heq : l.getD k default = l.getD (k - 1) default := by
     rw [e1] at h4; simpa using h4
    have hdk : ddI l k = l.take k := ddI_take hk hne
    have hdk1 : ddI l (k + 1) = l.take k := by rw [mid_skip (by omega) heq, hdk]
    conv => whnf
    refine .mk (by simp only [okI, Rw.rngE]; omega) ?_
    conv => whnf
    refine LoopZ.objs 1 [0, 1, 6] (fun j : Nat => [(7, .int j), (5, .int (ddI l (k + j)).length)]) (fun j => [(0, rowE (mid l (k + j)))]) (fun j => 1 ≤ j ∧ k + j ≤ l.length ∧ (ddI l (k + j)).length + 1 ≤ k + j) (fun j => l.length - j) 1 [0] rfl (by decide) (fun _ => rfl) ⟨by omega, by omega, ?_⟩ ?_ ?_ ?_
    ·rw [hdk1]; simp; omega
    ·refine ⟨⟨_, rfl, .eq rfl⟩, ⟨_, rfl, .eq ?_⟩, trivial⟩
     rw [hdk1]
     show T.int (((l.take k).length : Nat) : Int) = T.int (k : Int)
     simp [Nat.min_eq_left hk]
    ·refine ⟨⟨rfl, (fun _ => rfl), rfl, rfl, rfl, _, rfl, rfl, rfl, SubA.of_eq ?_⟩, trivial⟩
     have : mid l (k + 1) = l := by unfold mid; rw [hdk1]; simp [Nat.min_eq_left hk]
     rw [this]
    conv => whnf
    refine ⟨⟨⟨_, rfl, .eq rfl⟩, ⟨_, rfl, .eq rfl⟩, ⟨_, rfl, .eq rfl⟩, trivial⟩, rfl, ?_⟩
    rintro j ⟨hj0, hj, hdl⟩
    have hml := mid_len hj
    have e2 : ((j : Int) - 1).toNat = j - 1 := by omega
    have hsm : smallE (mid l (k + j)) := fun x hx => by
     unfold mid at hx
     rcases List.mem_append.1 hx with hx | hx
     ·exact hs x (ddI_mem hx hj)
     ·exact hs x (List.mem_of_mem_drop hx)
    conv => whnf
    refine ⟨fun h5 => ?_, fun h5 => ?_⟩
    ·have hj' : k + j < l.length := by
      have h6 : j < l.length - k := by
       have : (j : Int) < (((Rw.elems l).len - k : Nat) : Int) := by simpa using h5
       have e3 : (Rw.elems l).len = l.length := rfl
       rw [e3] at this
       omega
      omega
     have g1 := mid_get (l := l) (j := k + j) (i := k + j) (by omega)
     have g2 := mid_get (l := l) (j := k + j) (i := k + (j - 1)) (by omega)
     conv => whnf
     repeat (refine VC.mk (by first | (simp only [okI]; omega) | (show _ ∧ _ < (((l.length - k : Nat)) : Int); omega) | (simp only [Rw.rng, hml, Int.toNat_natCast, e2]; omega) | (show (0 : Int) ≤ _ ∧ _ < ((mid l (k + j)).length : Int); rw [hml]; simp only [Int.toNat_natCast, e2]; omega)) ?_; conv => whnf)
     refine CallZ.pure (S.cover_tidy_c1 _ _ (hsm.get _) (hsm.get _)) rfl ?_
     simp only [Int.toNat_natCast, e2, g1, g2]
     conv => whnf
     have e4 : k + (j - 1) = k + j - 1 := by omega
     refine ⟨fun h6 => ?_, fun h6 => ?_⟩
     ·have hne' : l.getD (k + j) default ≠ l.getD (k + j - 1) default := by
       rw [e4] at h6; simpa using h6
      have hst := mid_set hj' (.inr hne')
      have hd1 : ddI l (k + j + 1) = ddI l (k + j) ++ [l.getD (k + j) default] := by simp only [ddI]; rw [if_pos (.inr hne')]
      conv => whnf
      repeat (refine VC.mk (by first | (simp only [okI]; omega) | (show _ ∧ _ < (((l.length - k : Nat)) : Int); omega) | (simp only [Rw.rng, hml, Int.toNat_natCast]; omega) | (show (0 : Int) ≤ _ ∧ _ < ((mid l (k + j)).length : Int); rw [hml]; simp only [Int.toNat_natCast]; omega)) ?_; conv => whnf)
      refine ⟨j + 1, [0], ⟨by omega, by omega, ?_⟩, by omega, ⟨⟨_, rfl, .eq rfl⟩, ⟨_, rfl, .eq ?_⟩, trivial⟩, ⟨⟨_, rfl, .eq rfl⟩, ⟨_, rfl, .eq rfl⟩, ⟨_, rfl, .eq rfl⟩, trivial⟩, ⟨rfl, (fun _ => rfl), rfl, rfl, rfl, _, rfl, rfl, rfl, SubA.of_eq ?_⟩, trivial⟩
      ·show (ddI l (k + j + 1)).length + 1 ≤ k + (j + 1)
       rw [hd1]; simp; omega
      ·show T.int (((ddI l (k + j + 1)).length : Nat) : Int) = T.int (((ddI l (k + j)).length : Int) + 1)
       rw [hd1]; simp
      ·show (rowE (mid l (k + j + 1))).toOb.l = (OV.row Y.api_Element 3 (.elems ((mid l (k + j)).set (((ddI l (k + j)).length : Int)).toNat ((mid l (k + j)).getD ((k : Int).toNat + (j : Int).toNat) default))) []).toOb.l
       simp only [Int.toNat_natCast, g1, hst]
     ·have heq' : l.getD (k + j) default = l.getD (k + j - 1) default := by
       rw [e4] at h6; simpa using h6
      have hd1 : ddI l (k + j + 1) = ddI l (k + j) := mid_skip (by omega) heq'
      conv => whnf
      refine .mk (by simp only [okI, Rw.rng] at *; omega) ?_
      conv => whnf
      refine ⟨j + 1, [0], ⟨by omega, by omega, ?_⟩, by omega, ⟨⟨_, rfl, .eq rfl⟩, ⟨_, rfl, .eq ?_⟩, trivial⟩, ⟨⟨_, rfl, .eq rfl⟩, ⟨_, rfl, .eq rfl⟩, ⟨_, rfl, .eq rfl⟩, trivial⟩, ⟨rfl, (fun _ => rfl), rfl, rfl, rfl, _, rfl, rfl, rfl, SubA.of_eq ?_⟩, trivial⟩
      ·show (ddI l (k + j + 1)).length + 1 ≤ k + (j + 1)
       rw [hd1]; omega
      ·show T.int (((ddI l (k + j + 1)).length : Nat) : Int) = T.int ((ddI l (k + j)).length : Int)
       rw [hd1]
      ·show (rowE (mid l (k + j + 1))).toOb.l = (rowE (mid l (k + j))).toOb.l
       unfold mid; rw [hd1]
    ·have hj' : k + j = l.length := by
      have h6 : ¬ (j : Int) < (((Rw.elems l).len - k : Nat) : Int) := by simpa using h5
      have e3 : (Rw.elems l).len = l.length := rfl
      rw [e3] at h6
      omega
     have hdl' : (ddI l (k + j)).length ≤ l.length := by have := ddI_len l (k + j); omega
     conv => whnf
     repeat (refine VC.mk (by first | (simp only [Rw.rngE, hml]; omega) | (refine ⟨?_, rfl⟩; show ((ddI l (k + j)).length : Int).toNat ≤ (mid l (k + j)).length; rw [hml, Int.toNat_natCast]; omega) | (show (0 : Int) ≤ ((ddI l (k + j)).length : Int) ∧ ((ddI l (k + j)).length : Int) ≤ (((mid l (k + j)).take ((ddI l (k + j)).length : Int).toNat).length : Int); rw [List.length_take, hml, Int.toNat_natCast]; omega) | (show _ ≤ (mid l (k + j)).length ∧ (mid l (k + j)).length = (mid l (k + j)).length; rw [hml]; simp only [Int.toNat_natCast]; omega) | (show (0 : Int) ≤ _ ∧ _ ≤ (((mid l (k + j)).take _).length : Int); rw [List.length_take, hml]; simp only [Int.toNat_natCast]; omega)) ?_; conv => whnf)
     have htk : (mid l (k + j)).take ((ddI l (k + j)).length : Int).toNat = compE l := by
      rw [Int.toNat_natCast]; unfold mid; rw [List.take_left, hj']; rfl
     have hcl : ((ddI l (k + j)).length : Int).toNat = (compE l).length := by rw [Int.toNat_natCast, hj']; rfl
     refine EndI.one (c := 0) (j := 0) (o := .row Y.api_Element 3 (.elems (compE l)) (List.replicate ((mid l (k + j)).length - ((ddI l (k + j)).length : Int).toNat) zeroV)) (t := .ovw 0 0 (compE l).length) ?_ (rep_good _ _ _) (rep_fre _ _) (fun _ => rfl) (.inl rfl) rfl (.eq ?_) (.inr ⟨_, rfl, rfl⟩)
     ·rw [← htk]; rfl
     ·rw [← hcl]; rfl
   ·conv => whnf
    refine .mk (by simp only [okI, Rw.rng] at *; omega) ?_
    conv => whnf
    refine ⟨k + 1, ⟨by omega, by omega, fun i h5 h6 => ?_⟩, by omega, ⟨⟨_, rfl, rfl⟩, trivial⟩, ?_, rfl⟩
    ·by_cases e : i = k
     ·subst e; rw [e1] at h4; simpa using h4
     ·exact hne i h5 (by omega)
    ·repeat' (first | exact trivial | exact ⟨_, rfl, rfl⟩ | constructor)
  ·conv => whnf
   have hk' : l.length ≤ k := by simpa using h3
   have hc : compE l = l := by
    rw [compE, ddI_take (Nat.le_refl _) (fun i h3 h4 => hne i h3 (by omega)), List.take_length]
   exact EndI.one (c := 0) (j := 0) (o := rowE l) (t := .own 0) rfl rfl rfl (fun _ => rfl) (.inl rfl) rfl (.eq rfl) (.inl ⟨hc, rfl, rfl⟩)
theorem cmpL_anti : ∀ a b : List Int, cmpL b a = - cmpL a b := by
 intro a
 induction a with
 | nil => intro b; cases b <;> rfl
 | cons x a ih =>
  intro b
  cases b with
  | nil => rfl
  | cons y b =>
   simp only [cmpL]
   by_cases h1 : x < y
   ·have h2 : ¬ y < x := by omega
    simp [h1, h2]
   ·by_cases h2 : y < x
    ·simp [h1, h2]
    ·simp [h1, h2, ih]
theorem cmpE_anti (a b : Elem) : cmpE b a = - cmpE a b := by
 simp only [cmpE]
 by_cases h1 : a.value < b.value
 ·have h2 : ¬ b.value < a.value := by omega
  simp [h1, h2]
 ·by_cases h2 : b.value < a.value
  ·simp [h1, h2]
  ·simp [h1, h2, cmpL_anti a.counts b.counts]
theorem cmpL_trans : ∀ {a b c : List Int}, cmpL a b < 0 → cmpL b c < 0 → cmpL a c < 0 := by
 intro a
 induction a with
 | nil =>
  intro b c h1 h2
  cases b with
  | nil => simp [cmpL] at h1
  | cons y b => cases c with
   | nil => simp [cmpL] at h2
   | cons z c => simp [cmpL]
 | cons x a ih =>
  intro b c h1 h2
  cases b with
  | nil => simp [cmpL] at h1
  | cons y b => cases c with
   | nil => simp [cmpL] at h2
   | cons z c =>
    simp only [cmpL] at h1 h2 ⊢
    by_cases a1 : x < y
    ·by_cases a2 : y < z
     ·rw [if_pos (by omega)]; omega
     ·by_cases a3 : z < y
      ·simp [a2, a3] at h2
      ·rw [if_pos (by omega)]; omega
    ·by_cases a4 : y < x
     ·simp [a1, a4] at h1
     ·simp only [a1, a4, if_false] at h1
      have e : x = y := by omega
      subst e
      by_cases a2 : x < z
      ·simp [a2]
      ·by_cases a3 : z < x
       ·simp [a2, a3] at h2
       ·simp only [a2, a3, if_false] at h2 ⊢
        exact ih h1 h2
theorem cmpE_trans {a b c : Elem} (h1 : cmpE a b < 0) (h2 : cmpE b c < 0) : cmpE a c < 0 := by
 simp only [cmpE] at h1 h2 ⊢
 by_cases a1 : a.value < b.value
 ·by_cases a2 : b.value < c.value
  ·rw [if_pos (by omega)]; omega
  ·by_cases a3 : c.value < b.value
   ·simp [a2, a3] at h2
   ·rw [if_pos (by omega)]; omega
 ·by_cases a4 : b.value < a.value
  ·simp [a1, a4] at h1
  ·simp only [a1, a4, if_false] at h1
   by_cases a2 : b.value < c.value
   ·rw [if_pos (by omega)]; omega
   ·by_cases a3 : c.value < b.value
    ·simp [a2, a3] at h2
    ·simp only [a2, a3, if_false] at h2
     rw [if_neg (by omega), if_neg (by omega)]
     exact cmpL_trans h1 h2
theorem cmpE_le_trans {a b c : Elem} (h1 : ¬ cmpE b a < 0) (h2 : ¬ cmpE c b < 0) : ¬ cmpE c a < 0 := by
 rw [cmpE_anti a b] at h1
 rw [cmpE_anti b c] at h2
 rw [cmpE_anti a c]
 by_cases e1 : cmpE a b = 0
 ·rw [cmpE_eq] at e1; subst e1; exact h2
 ·by_cases e2 : cmpE b c = 0
  ·rw [cmpE_eq] at e2; subst e2; exact h1
  ·have := cmpE_trans (a := a) (b := b) (c := c) (by omega) (by omega)
   omega
def SrtE (l : List Elem) : Prop := l.Pairwise fun a b => ¬ cmpE b a < 0
def insO (e : Elem) : List Elem → List Elem
 | [] => [e]
 | x :: r => if cmpE x e < 0 then x :: insO e r else e :: x :: r
def sortE (l : List Elem) : List Elem := l.foldr insO []
theorem insO_perm (e : Elem) : ∀ l, (insO e l).Perm (e :: l) := by
 intro l
 induction l with
 | nil => exact .refl _
 | cons x r ih =>
  simp only [insO]; split
  ·exact ((ih.cons x).trans (.swap e x r))
  ·exact .refl _
theorem sortE_perm : ∀ l, (sortE l).Perm l := by
 intro l
 induction l with
 | nil => exact .refl _
 | cons x r ih => exact (insO_perm x _).trans (ih.cons x)
theorem insO_srt (e : Elem) : ∀ l, SrtE l → SrtE (insO e l) := by
 intro l
 induction l with
 | nil => intro _; simp [SrtE, insO]
 | cons x r ih =>
  intro h
  have h' := h
  simp only [SrtE, List.pairwise_cons] at h
  simp only [insO]
  split
  ·rename_i hlt
   simp only [SrtE, List.pairwise_cons]
   refine ⟨fun y hy => ?_, ih h.2⟩
   rcases List.mem_cons.1 ((insO_perm e r).mem_iff.1 hy) with rfl | hy
   ·rw [cmpE_anti]; omega
   ·exact h.1 y hy
  ·rename_i hge
   simp only [SrtE, List.pairwise_cons]
   refine ⟨fun y hy => ?_, h⟩
   rcases List.mem_cons.1 hy with rfl | hy
   ·exact hge
   ·exact cmpE_le_trans hge (h.1 y hy)
theorem sortE_srt : ∀ l, SrtE (sortE l) := by
 intro l
 induction l with
 | nil => simp [SrtE, sortE]
 | cons x r ih => exact insO_srt x _ ih
theorem srt_unique : ∀ {a b : List Elem}, a.Perm b → SrtE a → SrtE b → a = b := by
 intro a
 induction a with
 | nil => intro b hp _ _; exact hp.nil_eq
 | cons x a ih =>
  intro b hp ha hb
  cases b with
  | nil => exact absurd hp.symm (by simp)
  | cons y b =>
   have h1 := ha; have h2 := hb
   simp only [SrtE, List.pairwise_cons] at h1 h2
   have hxy : x = y := by
    by_cases e : x = y
    ·exact e
    ·have hx : x ∈ b := by
      rcases List.mem_cons.1 (hp.mem_iff.1 (by simp : x ∈ x :: a)) with h | h
      ·exact absurd h e
      ·exact h
     have hy : y ∈ a := by
      rcases List.mem_cons.1 (hp.mem_iff.2 (by simp : y ∈ y :: b)) with h | h
      ·exact absurd h.symm e
      ·exact h
     have g1 := h1.1 y hy
     have g2 := h2.1 x hx
     rw [cmpE_anti] at g1
     have : cmpE x y = 0 := by omega
     exact cmpE_eq.1 this
   subst hxy
   rw [ih (List.Perm.cons_inv hp) h1.2 h2.2]
def dElem : T → Elem
 | .agg [.lit (.int _ v), .sl _ _ l] => ⟨v, l.map intOfT⟩
 | _ => default
theorem dElem_e (e : Elem) : dElem (eElem e) = e := by
 obtain ⟨v, c⟩ := e
 simp only [eElem, dElem]
 congr 1
 rw [List.map_map]
 conv => rhs; rw [← List.map_id c]
 exact List.map_congr_left fun x _ => rfl
theorem S.cmpT {x y : Elem} (hx : x.counts.length < 2^40) (hy : y.counts.length < 2^40) : APure Tryz.prog 13 [eElem x, eElem y] (.int (cmpE x y)) := S.cover_Compare x y hx hy
theorem ACalls.rename {P : Program} {f : FuncId} {ts : List T} {h h'' : Hp} {n0 n : Nat} {t : T} (H : ACalls P f ts h n0 fun t' h' => t' = t ∧ h' = h'') (h0 : h'' n0 = none) (hts : T.idsL (· ≠ n0) ts) (hh : idsH (· ≠ n0) h)
  (ht : t.ids (fun i => (h i).isSome = true)) (hh'' : idsH (fun i => (h i).isSome = true) h'') : ACalls P f ts h n fun t' h' => t' = t ∧ h' = h'' := by
 obtain ⟨h1, h2, h3⟩ := H
 refine ⟨h1, h2, fun F M E vs hk he hr hid hm hn => ?_⟩
 have hand : ∀ {l : List T}, T.idsL M l → T.idsL (· ≠ n0) l → T.idsL (fun i => M i ∧ i ≠ n0) l := by
  intro l a b
  rw [idsL_iff] at a b ⊢
  intro t ht
  have ha := a t ht; have hb := b t ht
  revert ha hb
  apply T.rec (motive_1 := fun t => t.ids M → t.ids (· ≠ n0) → t.ids (fun i => M i ∧ i ≠ n0)) (motive_2 := fun l => T.idsL M l → T.idsL (· ≠ n0) l → T.idsL (fun i => M i ∧ i ≠ n0) l) (t := t)
  all_goals (intros; simp_all [T.ids, T.idsL])
 refine (h3 F (fun i => M i ∧ i ≠ n0) E vs hk he hr (hand hid hts) (fun i ob hi => ⟨⟨(hm i ob hi).1, (hh i ob hi).1⟩, hand (hm i ob hi).2 (hh i ob hi).2⟩) (fun q => q.2 rfl)).mono ?_
 rintro e w' ⟨v, t', E', r1, r2, ⟨r3, r4⟩, r5, r6, r7, r8, _, _⟩
 have hM : ∀ i, (h i).isSome = true → M i ∨ i = n := fun i hi => by
  obtain ⟨ob, hob⟩ := Option.isSome_iff_exists.1 hi
  exact .inl (hm i ob hob).1
 refine ⟨v, t', E', r1, r2, ⟨r3, r4⟩, r5, r6, r7, fun i hi hs => ?_, by rw [r3]; exact T.ids_weaken hM _ ht, by rw [r4]; exact fun i ob hi => ⟨hM i (hh'' i ob hi).1, T.idsL_weaken hM _ (hh'' i ob hi).2⟩⟩
 by_cases e : i = n0
 ·subst e; rw [r4, h0] at hs; cases hs
 ·exact r8 i ⟨hi, e⟩ hs
def Kn : Know := ⟨xtab, fun _ _ _ => none, fun _ _ _ _ => none, fun _ => true, 10000⟩
theorem Kn_ok : KOk Tryz.prog Kn := ⟨xtab_ok, (fun n f ts t o h => by cases h), (fun n f ts h t h' e => by cases e)⟩
theorem sort_nil : xf Kn 40 false 1 F.slices_SortFunc_Lapi_Element_api_Element [.own 0, .fn 13 []] [(0, ⟨29, 3, []⟩)] = some (.tup [], [(0, ⟨29, 3, []⟩)]) := by kernel_rfl
theorem h1_hp (l : List Elem) : (h1 l).toHp = upd no 0 (some ⟨29, 3, l.map eElem⟩) := by
 show Hz.toHp ((0, some (rowE l)) :: []) = _
 rw [toHp_put]
 simp [rowE, OV.toOb, Rw.toL, V.toL]; rfl
theorem isAggE : ∀ w, (isAgg 29).run Tryz.prog w = .ok true w := fun w => run_isAgg' (k := 3) (by kernel_rfl)
theorem sizeE : ∀ w, (Go.sizeOf 29).run Tryz.prog w = .ok 2 w := fun w => run_sizeOf' (k := 3) (by kernel_rfl)
theorem S.SortFunc (l : List Elem) (n : Nat) (hl : l.length < 2^30) (hs : smallE l) :
  ACalls Tryz.prog F.slices_SortFunc_Lapi_Element_api_Element (V.toL [.own 0, .fn F.cover_Compare []]) (h1 l).toHp n (fun t hp => t = .tup [] ∧ hp = (h1 (sortE l)).toHp) := by
 by_cases hne : l = []
 ·subst hne
  obtain ⟨H, _⟩ := xf_ok Kn_ok 40 false 1 _ _ _ _ _ sort_nil
  have e : lk [(0, (⟨29, 3, []⟩ : Ob))] = (h1 []).toHp := by
   rw [h1_hp, lk_upd]; rfl
  rw [e] at H
  refine ACalls.rename H ?_ ?_ ?_ ?_ ?_
  ·rfl
  ·exact ⟨show (0 : Nat) ≠ 1 by decide, trivial, trivial⟩
  ·intro i ob hi
   rw [h1_hp] at hi
   simp only [upd] at hi
   split at hi
   ·rename_i e; subst e; cases hi; exact ⟨show (0 : Nat) ≠ 1 by decide, trivial⟩
   ·cases hi
  ·trivial
  ·intro i ob hi
   show _ ∧ T.idsL _ ob.l
   refine ⟨by rw [show sortE [] = [] from rfl] at hi; rw [hi]; rfl, ?_⟩
   rw [h1_hp] at hi
   simp only [upd] at hi
   split at hi
   ·cases hi; trivial
   ·cases hi
 ·have hx : ∀ t ∈ l.map eElem, ∃ e ∈ l, t = eElem e := fun t ht => by obtain ⟨e, he, rfl⟩ := List.mem_map.1 ht; exact ⟨e, he, rfl⟩
  have H := ACalls.sort (n := n) Tryz.laySort 2 (by decide) isAggE sizeE (by exact Bd.slices_SortFunc_Lapi_Element_api_Element.cl) (g := 13) (by decide) (by exact Bd.cover_Compare.cl) (l := l.map eElem) (by simpa using hne)
   (fun t ht => by obtain ⟨e, _, rfl⟩ := hx t ht; rfl) (elems_free l) (by simp; omega) (fun x y => cmpE (dElem x) (dElem y))
   (fun t ht => by rw [cmpE_eq.2 rfl]; decide)
   (fun x _ y _ z _ h1 h2 => cmpE_trans h1 h2)
   (fun x _ y _ z _ h1 h2 => cmpE_le_trans h2 h1)
   (fun x hx1 y hy1 => by
    obtain ⟨a, ha, rfl⟩ := hx x hx1
    obtain ⟨b, hb, rfl⟩ := hx y hy1
    simp only [dElem_e]; exact S.cmpT (hs a ha) (hs b hb))
   (by decide) ⟨(sortE l).map eElem, (sortE_perm l).map eElem, by
    rw [List.pairwise_map]; simp only [dElem_e]; exact sortE_srt l⟩ (h := (h1 l).toHp) (i := 0) (ty := 29) (by rw [h1_hp]; rfl)
  refine ACalls.mono H ?_
  rintro t hp ⟨rfl, l', hp', hpw, rfl⟩
  refine ⟨rfl, ?_⟩
  have hl' : l' = (l'.map dElem).map eElem := by
   rw [List.map_map]
   conv => lhs; rw [← List.map_id l']
   refine List.map_congr_left fun t ht => ?_
   obtain ⟨e, _, rfl⟩ := hx t (hp'.mem_iff.1 ht)
   simp [dElem_e]
  have hperm : (l'.map dElem).Perm l := by
   have := hp'.map dElem
   rw [List.map_map] at this
   have e : l.map (dElem ∘ eElem) = l := by
    conv => rhs; rw [← List.map_id l]
    exact List.map_congr_left fun e _ => dElem_e e
   rw [e] at this; exact this
  have hsrt : SrtE (l'.map dElem) := by
   unfold SrtE; rw [List.pairwise_map]; exact hpw
  have heq : l'.map dElem = sortE l := srt_unique (hperm.trans (sortE_perm l).symm) hsrt (sortE_srt l)
  rw [h1_hp, h1_hp]
  rw [hl', heq]
  funext j
  simp only [upd]; split <;> rfl
def tidyE (l : List Elem) : List Elem := compE (sortE l)
theorem sortE_len (l : List Elem) : (sortE l).length = l.length := (sortE_perm l).length_eq
theorem sortE_small {l : List Elem} (h : smallE l) : smallE (sortE l) := fun e he => h e ((sortE_perm l).mem_iff.1 he)
theorem S.cover_tidy (l : List Elem) (n : Nat) (hl : l.length < 2^30) (hs : smallE l) :
  ACalls Tryz.prog F.cover_tidy (V.toL [.own 0]) (h1 l).toHp n
   (fun t hp => (t = .own 0 ∧ hp = (h1 (tidyE l)).toHp) ∨ (∃ m, t = .ovw 0 0 (tidyE l).length ∧ hp = Hz.toHp [(0, some (.row Y.api_Element 3 (.elems (tidyE l)) (List.replicate m zeroV)))])) := by
 refine SpecI.of (nx := 1) Bd.cover_tidy (by simp) ⟨_, _, .inl ⟨rfl, rfl⟩⟩ rfl rfl ?_
 conv => whnf
 refine CallZ.heap (S.SortFunc l _ hl hs) ?_
 rintro t hp ⟨rfl, rfl⟩
 refine ⟨.tup [], h1 (sortE l), rfl, rfl, ?_⟩
 conv => whnf
 refine CallZ.heap (S.CompactFunc (sortE l) _ (by rw [sortE_len]; exact hl) (sortE_small hs)) ?_
 rintro t hp (⟨hc, rfl, rfl⟩ | ⟨m, rfl, rfl⟩)
 ·refine ⟨.own 0, h1 (sortE l), rfl, rfl, ?_⟩
  conv => whnf
  refine EndI.one (c := 0) (j := 0) (o := rowE (sortE l)) (t := .own 0) rfl rfl rfl (fun _ => rfl) (.inl rfl) rfl (.eq rfl) (.inl ⟨rfl, ?_⟩)
  rw [tidyE, hc]
 ·refine ⟨.ovw 0 0 (compE (sortE l)).length, [(0, some (.row Y.api_Element 3 (.elems (compE (sortE l))) (List.replicate m zeroV)))], rfl, rfl, ?_⟩
  conv => whnf
  exact EndI.one (c := 0) (j := 0) (o := .row Y.api_Element 3 (.elems (compE (sortE l))) (List.replicate m zeroV)) (t := .ovw 0 0 (compE (sortE l)).length) rfl (rep_good _ _ _) (rep_fre _ _) (fun _ => rfl) (.inl rfl) rfl (.eq rfl) (.inr ⟨m, rfl, rfl⟩)
def keepM (l : List Elem) (x : Elem) : Bool := !(l.any (abvE x))
def covMin (l : List Elem) : List Elem := tidyE (l.filter (keepM l))
theorem EndZ.ovwE {h : Hz} {j m : Nat} {l : List Elem} (q : h.get j = some (.row Y.api_Element 3 (.elems l) (List.replicate m zeroV))) : EndZ (.row 3 false (.elems l)) (.ovw j 0 l.length) h := ⟨by
 show T.sub (fun _ => True) h.toHp (.sl 3 false (l.map eElem)) (.ovw j 0 l.length)
 simp only [T.sub]
 refine ⟨trivial, trivial, elems_free l, by decide, Y.api_Element, l.map eElem ++ V.toL (List.replicate m zeroV), ?_, by simp, by simp⟩
 exact toHp_some q⟩
theorem leqL_cmp : ∀ {a b : List Int}, leqL a b = true → cmpL a b ≤ 0 := by
 intro a
 induction a with
 | nil => intro b h; cases b <;> simp [leqL, cmpL] at *
 | cons x a ih =>
  intro b h
  cases b with
  | nil => simp [leqL] at h
  | cons y b =>
   simp only [leqL, Bool.and_eq_true, decide_eq_true_eq] at h
   simp only [cmpL]
   by_cases h1 : x < y
   ·simp [h1]
   ·have h2 : ¬ y < x := by omega
    simp only [h1, h2, if_false]; exact ih h.2
theorem leqE_cmp {a b : Elem} (h : leqE a b = true) : cmpE a b ≤ 0 := by
 simp only [leqE, Bool.and_eq_true, beq_iff_eq] at h
 simp only [cmpE]
 rw [if_neg (by omega), if_neg (by omega)]
 exact leqL_cmp h.2
theorem leqL_refl : ∀ a : List Int, leqL a a = true := by
 intro a
 induction a with
 | nil => rfl
 | cons x a ih => simp [leqL, ih]
theorem leqE_refl (a : Elem) : leqE a a = true := by simp [leqE, leqL_refl]
theorem leqL_trans : ∀ {a b c : List Int}, leqL a b = true → leqL b c = true → leqL a c = true := by
 intro a
 induction a with
 | nil => intro b c h1 h2; cases b <;> cases c <;> simp [leqL] at *
 | cons x a ih =>
  intro b c h1 h2
  cases b with
  | nil => simp [leqL] at h1
  | cons y b => cases c with
   | nil => simp [leqL] at h2
   | cons z c =>
    simp only [leqL, Bool.and_eq_true, decide_eq_true_eq] at *
    exact ⟨by omega, ih h1.2 h2.2⟩
theorem leqE_trans {a b c : Elem} (h1 : leqE a b = true) (h2 : leqE b c = true) : leqE a c = true := by
 simp only [leqE, Bool.and_eq_true, beq_iff_eq] at *
 exact ⟨by omega, leqL_trans h1.2 h2.2⟩
theorem abvE_iff {x y : Elem} : abvE x y = true ↔ leqE y x = true ∧ y ≠ x := by
 simp only [abvE, Bool.and_eq_true, bne_iff_ne, ne_eq, cmpE_eq]
theorem abvE_lt {x y : Elem} (h : abvE x y = true) : cmpE y x < 0 := by
 rw [abvE_iff] at h
 have h1 := leqE_cmp h.1
 have h2 : cmpE y x ≠ 0 := fun e => h.2 (cmpE_eq.1 e)
 omega
def SS (l : List Elem) : Prop := l.Pairwise fun a b => cmpE a b < 0
theorem ss_unique : ∀ {a b : List Elem}, SS a → SS b → (∀ x, x ∈ a ↔ x ∈ b) → a = b := by
 intro a
 induction a with
 | nil =>
  intro b _ _ h
  cases b with
  | nil => rfl
  | cons y b => exact absurd ((h y).2 (by simp)) (by simp)
 | cons x a ih =>
  intro b ha hb h
  cases b with
  | nil => exact absurd ((h x).1 (by simp)) (by simp)
  | cons y b =>
   simp only [SS, List.pairwise_cons] at ha hb
   have hself : ∀ z : Elem, ¬ cmpE z z < 0 := fun z => by rw [cmpE_eq.2 rfl]; decide
   have hxy : x = y := by
    rcases List.mem_cons.1 ((h x).1 (by simp)) with e | hx
    ·exact e
    ·rcases List.mem_cons.1 ((h y).2 (by simp)) with e | hy
     ·exact e.symm
     ·exact absurd (cmpE_trans (ha.1 y hy) (hb.1 x hx)) (hself x)
   subst hxy
   rw [ih ha.2 hb.2 fun z => ?_]
   constructor
   ·intro hz
    rcases List.mem_cons.1 ((h z).1 (by simp [hz])) with e | h'
    ·subst e; exact absurd (ha.1 z hz) (hself z)
    ·exact h'
   ·intro hz
    rcases List.mem_cons.1 ((h z).2 (by simp [hz])) with e | h'
    ·subst e; exact absurd (hb.1 z hz) (hself z)
    ·exact h'
theorem ddI_props {l : List Elem} (hs : SrtE l) : ∀ n, n ≤ l.length → SS (ddI l n) ∧ (∀ x, x ∈ ddI l n ↔ x ∈ l.take n) ∧ (∀ x ∈ ddI l n, n < l.length → ¬ cmpE (l.getD n default) x < 0) := by
 intro n
 induction n with
 | zero => intro _; exact ⟨by simp [SS, ddI], by simp [ddI], by simp [ddI]⟩
 | succ n ih =>
  intro hn
  obtain ⟨h1, h2, h3⟩ := ih (by omega)
  have hnl : n < l.length := by omega
  have hmono : ∀ i j, i ≤ j → j < l.length → ¬ cmpE (l.getD j default) (l.getD i default) < 0 := by
   intro i j hij hj
   by_cases e : i = j
   ·subst e; rw [cmpE_eq.2 rfl]; decide
   ·have := List.pairwise_iff_getElem.1 hs i j (by omega) hj (by omega)
    simpa [hj, show i < l.length by omega] using this
  have htake : ∀ x, x ∈ l.take n → ∃ i, i < n ∧ l.getD i default = x := by
   intro x hx
   rw [List.mem_take_iff_getElem] at hx
   obtain ⟨i, hi, e⟩ := hx
   exact ⟨i, by omega, by rw [← e]; simp [show i < l.length by omega]⟩
  have hlast : l.take (n + 1) = l.take n ++ [l.getD n default] := by
   rw [List.take_add_one]; simp [hnl]
  simp only [ddI]
  split
  ·rename_i hc
   refine ⟨?_, ?_, ?_⟩
   ·simp only [SS, List.pairwise_append]
    refine ⟨h1, by simp, fun x hx y hy => ?_⟩
    rw [List.mem_singleton] at hy; subst hy
    have hge := h3 x hx hnl
    rw [cmpE_anti] at hge
    have hne : cmpE x (l.getD n default) ≠ 0 := by
     intro e
     rw [cmpE_eq] at e
     rcases hc with hc | hc
     ·subst hc; simp [ddI] at hx
     ·obtain ⟨i, hi, hix⟩ := htake x ((h2 x).1 hx)
      have g1 := hmono i (n - 1) (by omega) (by omega)
      have g2 := hmono (n - 1) n (by omega) hnl
      rw [hix, e] at g1
      rw [cmpE_anti] at g1
      have : cmpE (l.getD n default) (l.getD (n - 1) default) = 0 := by omega
      exact hc (cmpE_eq.1 this)
    omega
   ·intro x
    rw [hlast]
    simp only [List.mem_append, h2]
   ·intro x hx hn1
    rcases List.mem_append.1 hx with hx | hx
    ·obtain ⟨i, hi, hix⟩ := htake x ((h2 x).1 hx)
     rw [← hix]; exact hmono i (n + 1) (by omega) hn1
    ·rw [List.mem_singleton] at hx; subst hx
     exact hmono n (n + 1) (by omega) hn1
  ·rename_i hc
   have hc' : n ≠ 0 ∧ l.getD n default = l.getD (n - 1) default := by
    constructor
    ·intro e; exact hc (.inl e)
    ·by_cases e : l.getD n default = l.getD (n - 1) default
     ·exact e
     ·exact absurd (.inr e) hc
   refine ⟨h1, fun x => ?_, fun x hx hn1 => ?_⟩
   ·rw [hlast, h2]
    simp only [List.mem_append, List.mem_singleton]
    constructor
    ·exact .inl
    ·rintro (h | h)
     ·exact h
     ·rw [h, hc'.2]
      rw [List.mem_take_iff_getElem]
      exact ⟨n - 1, by omega, by simp [show n - 1 < l.length by omega]⟩
   ·obtain ⟨i, hi, hix⟩ := htake x ((h2 x).1 hx)
    rw [← hix]; exact hmono i (n + 1) (by omega) hn1
theorem tidyE_ss (l : List Elem) : SS (tidyE l) := (ddI_props (sortE_srt l) _ (Nat.le_refl _)).1
theorem tidyE_mem (l : List Elem) (x : Elem) : x ∈ tidyE l ↔ x ∈ l := by
 unfold tidyE compE
 rw [(ddI_props (sortE_srt l) _ (Nat.le_refl _)).2.1, List.take_length]
 exact (sortE_perm l).mem_iff
theorem filter_lt {l : List Elem} {p q : Elem → Bool} (hpq : ∀ x, p x = true → q x = true) {y : Elem} (hy : y ∈ l) (hq : q y = true) (hp : p y = false) : (l.filter p).length < (l.filter q).length := by
 induction l with
 | nil => cases hy
 | cons x l ih =>
  have hle : ∀ l : List Elem, (l.filter p).length ≤ (l.filter q).length := by
   intro l
   induction l with
   | nil => simp
   | cons z l ih =>
    simp only [List.filter_cons]
    by_cases h1 : p z = true
    ·rw [if_pos h1, if_pos (hpq z h1)]; simp; exact ih
    ·rw [if_neg h1]; split
     ·simp; omega
     ·exact ih
  simp only [List.filter_cons]
  rcases List.mem_cons.1 hy with rfl | hy
  ·rw [if_neg (by rw [hp]; decide), if_pos hq]
   have := hle l
   simp; omega
  ·have := ih hy
   by_cases h1 : p x = true
   ·rw [if_pos h1, if_pos (hpq x h1)]; simp; exact this
   ·rw [if_neg h1]; split
    ·simp; omega
    ·exact this
theorem min_below (l : List Elem) : ∀ (n : Nat) (b : Elem), b ∈ l → (l.filter fun z => decide (cmpE z b < 0)).length ≤ n → ∃ z ∈ l, leqE z b = true ∧ l.any (abvE z) = false := by
 intro n
 induction n with
 | zero =>
  intro b hb hn
  refine ⟨b, hb, leqE_refl b, ?_⟩
  rw [List.any_eq_false]
  intro y hy hab
  have : y ∈ l.filter fun z => decide (cmpE z b < 0) := List.mem_filter.2 ⟨hy, by simpa using abvE_lt hab⟩
  have := List.length_pos_of_mem this
  omega
 | succ n ih =>
  intro b hb hn
  cases hm : l.any (abvE b) with
  | false => exact ⟨b, hb, leqE_refl b, hm⟩
  | true =>
   rw [List.any_eq_true] at hm
   obtain ⟨y, hy, hab⟩ := hm
   have hlt := abvE_lt hab
   have hfl : (l.filter fun z => decide (cmpE z y < 0)).length < (l.filter fun z => decide (cmpE z b < 0)).length := by
    refine filter_lt (y := y) (fun x hx => ?_) hy (by simpa using hlt) (by rw [cmpE_eq.2 rfl]; decide)
    simp only [decide_eq_true_eq] at hx ⊢
    exact cmpE_trans hx hlt
   obtain ⟨z, hz, h1, h2⟩ := ih y hy (by omega)
   exact ⟨z, hz, leqE_trans h1 (abvE_iff.1 hab).1, h2⟩
theorem min_of (l : List Elem) {b : Elem} (hb : b ∈ l) : ∃ z ∈ l, leqE z b = true ∧ l.any (abvE z) = false := min_below l _ b hb (Nat.le_refl _)
theorem any_congr {a b : List Elem} {p : Elem → Bool} (h : ∀ x, x ∈ a ↔ x ∈ b) : a.any p = b.any p := by
 rw [Bool.eq_iff_iff, List.any_eq_true, List.any_eq_true]
 exact ⟨fun ⟨x, h1, h2⟩ => ⟨x, (h x).1 h1, h2⟩, fun ⟨x, h1, h2⟩ => ⟨x, (h x).2 h1, h2⟩⟩
theorem covMin_props (l : List Elem) : SS (covMin l) ∧ ∀ x, x ∈ covMin l ↔ x ∈ l ∧ l.any (abvE x) = false := by
 refine ⟨tidyE_ss _, fun x => ?_⟩
 rw [covMin, tidyE_mem, List.mem_filter]
 simp [keepM]
end Go.Proofs.YtgokbcjkbdabnaaGreatDoor
