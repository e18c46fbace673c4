/-
  A part of the proof. No condition.
-/
import Derived.Test.YtpcmibeefiajaaaGreatDoorSb
import Derived.Test.YtpcmibeefiajaaaGreatDoorLe
import Derived.Test.YtpcmibeefiajaaaGreatDoorLg
namespace Go.Proofs.YtpcmibeefiajaaaGreatDoor
open Go.Ab Go.Proofs
set_option maxRecDepth 100000

def leqL : List Int → List Int → Bool
  | [], [] => true
  | x :: a, y :: b => decide (x ≤ y) && leqL a b
  | _, _ => false
def leqE (a b : Elem) : Bool := (a.value == b.value) && leqL a.counts b.counts

theorem leqL_iff : ∀ {a b : List Int}, leqL a b = true ↔ a.length = b.length ∧ ∀ j, j < a.length → a.getD j 0 ≤ b.getD j 0 := by
  intro a
  induction a with
  | nil => intro b; cases b <;> simp [leqL]
  | cons x a ih =>
    intro b
    cases b with
    | nil => simp [leqL]
    | cons y b =>
      simp only [leqL, Bool.and_eq_true, decide_eq_true_eq, ih, List.length_cons]
      constructor
      · rintro ⟨h1, h2, h3⟩
        refine ⟨by omega, fun j hj => ?_⟩
        cases j with
        | zero => simpa using h1
        | succ j => simpa using h3 j (by omega)
      · rintro ⟨h1, h2⟩
        exact ⟨by simpa using h2 0 (by omega), by omega, fun j hj => by simpa using h2 (j + 1) (by omega)⟩

theorem S.cover_Leq (a b : Elem) (ha : a.counts.length < 2^40) (hb : b.counts.length < 2^40) : SpecZ Tryz.prog F.cover_Leq [.dat (.elem a), .dat (.elem b)] (.bool (leqE a b)) := by
  refine SpecZ.of Bd.cover_Leq (by simp) rfl rfl ?_
  conv => whnf
  repeat (refine VC.mk (by first | exact rfl | exact fun h => h | exact fun h => ⟨h, h⟩ | exact trivial | (intro h; rw [h]; rfl) | (intro h; simp [h]; done) | (simp only [okI, Rw.rng] at *; first | omega | (simp_all; done) | (simp_all; omega))) ?_; conv => whnf)
  refine Fork.mk (fun h1 => ?_) (fun h1 => ?_)
  · conv => whnf
    repeat (refine VC.mk (by first | exact rfl | exact fun h => h | exact fun h => ⟨h, h⟩ | exact trivial | (intro h; rw [h]; rfl) | (intro h; simp [h]; done) | (simp only [okI, Rw.rng] at *; first | omega | (simp_all; done) | (simp_all; omega))) ?_; conv => whnf)
    refine EndZ.bool ?_
    by_cases hv : a.value = b.value
    · have : leqL a.counts b.counts = false := by
        rw [Bool.eq_false_iff]; intro h; rw [leqL_iff] at h; simp [hv, h.1] at h1
      simp [leqE, this]
    · simp [leqE, hv]
  · have h2 : a.value = b.value ∧ a.counts.length = b.counts.length := by
      by_cases hv : a.value = b.value
      · simp [hv] at h1; exact ⟨hv, by omega⟩
      · simp [hv] at h1
    conv => whnf
    repeat (refine VC.mk (by first | exact rfl | exact fun h => h | exact fun h => ⟨h, h⟩ | exact trivial | (intro h; rw [h]; rfl) | (intro h; simp [h]; done) | (simp only [okI, Rw.rng] at *; first | omega | (simp_all; done) | (simp_all; omega))) ?_; conv => whnf)
    refine LoopZ.same [3, 22, 23] (fun i : Nat => [(24, .int i)]) (fun i => i ≤ a.counts.length ∧ ∀ j, j < i → a.counts.getD j 0 ≤ b.counts.getD j 0) (fun i => a.counts.length - i) 0 rfl (by decide) rfl (fun _ => rfl) ⟨by omega, fun j hj => by omega⟩ ⟨⟨_, rfl, rfl⟩, trivial⟩ ?_
    conv => whnf
    refine ⟨rfl, ?_⟩
    rintro i ⟨hi, hall⟩
    conv => whnf
    repeat (refine VC.mk (by first | exact rfl | exact fun h => h | exact fun h => ⟨h, h⟩ | exact trivial | (intro h; rw [h]; rfl) | (intro h; simp [h]; done) | (simp only [okI, Rw.rng] at *; first | omega | (simp_all; done) | (simp_all; omega))) ?_; conv => whnf)
    refine Fork.mk (fun h3 => ?_) (fun h3 => ?_)
    · have hi' : i < a.counts.length := by simpa using h3
      conv => whnf
      repeat (refine VC.mk (by first | exact rfl | exact fun h => h | exact fun h => ⟨h, h⟩ | exact trivial | (intro h; rw [h]; rfl) | (intro h; simp [h]; done) | (simp only [okI, Rw.rng] at *; first | omega | (simp_all; done) | (simp_all; omega))) ?_; conv => whnf)
      refine Fork.mk (fun h4 => ?_) (fun h4 => ?_)
      · conv => whnf
        repeat (refine VC.mk (by first | exact rfl | exact fun h => h | exact fun h => ⟨h, h⟩ | exact trivial | (intro h; rw [h]; rfl) | (intro h; simp [h]; done) | (simp only [okI, Rw.rng] at *; first | omega | (simp_all; done) | (simp_all; omega))) ?_; conv => whnf)
        refine EndZ.bool ?_
        have : leqL a.counts b.counts = false := by
          rw [Bool.eq_false_iff]; intro h; rw [leqL_iff] at h; have := h.2 i hi'; simp only [Int.toNat_natCast, decide_eq_true_eq] at h4; omega
        simp [leqE, this]
      · conv => whnf
        repeat (refine VC.mk (by first | exact rfl | exact fun h => h | exact fun h => ⟨h, h⟩ | exact trivial | (intro h; rw [h]; rfl) | (intro h; simp [h]; done) | (simp only [okI, Rw.rng] at *; first | omega | (simp_all; done) | (simp_all; omega))) ?_; conv => whnf)
        refine ⟨i + 1, ⟨by omega, fun j hj => ?_⟩, by omega, ⟨⟨_, rfl, rfl⟩, trivial⟩, ?_, rfl⟩
        · by_cases e : j = i
          · subst e; simp only [Int.toNat_natCast, decide_eq_false_iff_not] at h4; omega
          · exact hall j (by omega)
        · repeat' (first | exact trivial | exact ⟨_, rfl, rfl⟩ | apply And.intro)
    · conv => whnf
      repeat (refine VC.mk (by first | exact rfl | exact fun h => h | exact fun h => ⟨h, h⟩ | exact trivial | (intro h; rw [h]; rfl) | (intro h; simp [h]; done) | (simp only [okI, Rw.rng] at *; first | omega | (simp_all; done) | (simp_all; omega))) ?_; conv => whnf)
      refine EndZ.bool ?_
      have hi' : a.counts.length ≤ i := by simpa using h3
      simp only [leqE, Bool.and_eq_true, beq_iff_eq]
      rw [Bool.eq_iff_iff]; simp only [Bool.and_eq_true, beq_iff_eq, iff_true]
      exact ⟨h2.1, leqL_iff.2 ⟨h2.2, fun j hj => hall j (by omega)⟩⟩
end Go.Proofs.YtpcmibeefiajaaaGreatDoor
namespace Go.Proofs.YtpcmibeefiajaaaGreatDoor
open Go.Ab Go.Proofs
set_option maxRecDepth 100000

/-! ### orders -/
def cmpI (a b : Int) : Int := if a < b then -1 else if b < a then 1 else 0
def cmpL : List Int → List Int → Int
  | [], [] => 0
  | [], _ :: _ => -1
  | _ :: _, [] => 1
  | x :: a, y :: b => if x < y then -1 else if y < x then 1 else cmpL a b
def cmpE (a b : Elem) : Int := if a.value < b.value then -1 else if b.value < a.value then 1 else cmpL a.counts b.counts

theorem drop_getD {α : Type} {l : List α} {i : Nat} (d : α) (h : i < l.length) : l.drop i = l.getD i d :: l.drop (i + 1) := by
  rw [List.drop_eq_getElem_cons h]; simp [h]
theorem cmpL_step {a b : List Int} {i : Nat} (ha : i < a.length) (hb : i < b.length) :
    cmpL (a.drop i) (b.drop i) = if a.getD i 0 < b.getD i 0 then -1 else if b.getD i 0 < a.getD i 0 then 1 else cmpL (a.drop (i + 1)) (b.drop (i + 1)) := by
  rw [drop_getD 0 ha, drop_getD 0 hb]; rfl
theorem cmpL_end {a b : List Int} {i : Nat} (hi : a.length ≤ i ∨ b.length ≤ i) (h1 : i ≤ a.length) (h2 : i ≤ b.length) :
    cmpL (a.drop i) (b.drop i) = if a.length < b.length then -1 else if b.length < a.length then 1 else 0 := by
  by_cases ha : a.length ≤ i
  · have e : a.drop i = [] := List.drop_eq_nil_of_le ha
    rw [e]
    by_cases hb : b.length ≤ i
    · rw [List.drop_eq_nil_of_le hb, if_neg (by omega), if_neg (by omega)]; rfl
    · rw [drop_getD 0 (by omega), if_pos (by omega)]; rfl
  · have hb : b.length ≤ i := by omega
    rw [List.drop_eq_nil_of_le hb, drop_getD 0 (by omega), if_neg (by omega), if_pos (by omega)]; rfl

theorem S.cmp_isNaN_int (a : Int) : SpecZ Tryz.prog F.cmp_isNaN_int [.int a] (.bool false) := by
  refine SpecZ.of Bd.cmp_isNaN_int (by simp) rfl rfl ?_
  conv => whnf
  repeat (refine VC.mk (by first | exact rfl | exact fun h => h | exact fun h => ⟨h, h⟩ | exact trivial | (intro h; rw [h]; rfl) | (intro h; simp [h]; done) | (simp only [okI, Rw.rng] at *; first | omega | (simp_all; done) | (simp_all; omega))) ?_; conv => whnf)
  refine EndZ.bool ?_
  simp

theorem S.cmp_Compare_int (a b : Int) : SpecZ Tryz.prog F.cmp_Compare_int [.int a, .int b] (.int (cmpI a b)) := by
  refine SpecZ.of Bd.cmp_Compare_int (by simp) rfl rfl ?_
  conv => whnf
  repeat (refine VC.mk (by first | exact rfl | exact fun h => h | exact fun h => ⟨h, h⟩ | exact trivial | (intro h; rw [h]; rfl) | (intro h; simp [h]; done) | (simp only [okI, Rw.rng] at *; first | omega | (simp_all; done) | (simp_all; omega))) ?_; conv => whnf)
  refine CallZ.pure (S.cmp_isNaN_int a) rfl ?_
  conv => whnf
  repeat (refine VC.mk (by first | exact rfl | exact fun h => h | exact fun h => ⟨h, h⟩ | exact trivial | (intro h; rw [h]; rfl) | (intro h; simp [h]; done) | (simp only [okI, Rw.rng] at *; first | omega | (simp_all; done) | (simp_all; omega))) ?_; conv => whnf)
  refine CallZ.pure (S.cmp_isNaN_int b) rfl ?_
  conv => whnf
  repeat (refine VC.mk (by first | exact rfl | exact fun h => h | exact fun h => ⟨h, h⟩ | exact trivial | (intro h; rw [h]; rfl) | (intro h; simp [h]; done) | (simp only [okI, Rw.rng] at *; first | omega | (simp_all; done) | (simp_all; omega))) ?_; conv => whnf)
  refine Fork.mk (fun h1 => by cases h1) (fun _ => ?_)
  conv => whnf
  repeat (refine VC.mk (by first | exact rfl | exact fun h => h | exact fun h => ⟨h, h⟩ | exact trivial | (intro h; rw [h]; rfl) | (intro h; simp [h]; done) | (simp only [okI, Rw.rng] at *; first | omega | (simp_all; done) | (simp_all; omega))) ?_; conv => whnf)
  refine Fork.mk (fun h1 => by cases h1) (fun _ => ?_)
  conv => whnf
  repeat (refine VC.mk (by first | exact rfl | exact fun h => h | exact fun h => ⟨h, h⟩ | exact trivial | (intro h; rw [h]; rfl) | (intro h; simp [h]; done) | (simp only [okI, Rw.rng] at *; first | omega | (simp_all; done) | (simp_all; omega))) ?_; conv => whnf)
  refine Fork.mk (fun h1 => ?_) (fun h1 => ?_)
  · conv => whnf
    repeat (refine VC.mk (by first | exact rfl | exact fun h => h | exact fun h => ⟨h, h⟩ | exact trivial | (intro h; rw [h]; rfl) | (intro h; simp [h]; done) | (simp only [okI, Rw.rng] at *; first | omega | (simp_all; done) | (simp_all; omega))) ?_; conv => whnf)
    exact EndZ.int (by simp only [decide_eq_true_eq] at h1; simp [cmpI, h1])
  · conv => whnf
    repeat (refine VC.mk (by first | exact rfl | exact fun h => h | exact fun h => ⟨h, h⟩ | exact trivial | (intro h; rw [h]; rfl) | (intro h; simp [h]; done) | (simp only [okI, Rw.rng] at *; first | omega | (simp_all; done) | (simp_all; omega))) ?_; conv => whnf)
    simp only [decide_eq_false_iff_not] at h1
    refine Fork.mk (fun h2 => ?_) (fun h2 => ?_)
    · conv => whnf
      repeat (refine VC.mk (by first | exact rfl | exact fun h => h | exact fun h => ⟨h, h⟩ | exact trivial | (intro h; rw [h]; rfl) | (intro h; simp [h]; done) | (simp only [okI, Rw.rng] at *; first | omega | (simp_all; done) | (simp_all; omega))) ?_; conv => whnf)
      exact EndZ.int (by simp only [decide_eq_true_eq] at h2; simp [cmpI, h1, h2])
    · conv => whnf
      repeat (refine VC.mk (by first | exact rfl | exact fun h => h | exact fun h => ⟨h, h⟩ | exact trivial | (intro h; rw [h]; rfl) | (intro h; simp [h]; done) | (simp only [okI, Rw.rng] at *; first | omega | (simp_all; done) | (simp_all; omega))) ?_; conv => whnf)
      exact EndZ.int (by simp only [decide_eq_false_iff_not] at h2; simp [cmpI, h1, h2])

theorem S.slices_Compare (a b : List Int) (ha : a.length < 2^40) (hb : b.length < 2^40) : SpecZ Tryz.prog F.slices_Compare_Lint_int [.row 0 false (.ints a), .row 0 false (.ints b)] (.int (cmpL a b)) := by
  refine SpecZ.of Bd.slices_Compare_Lint_int (by simp) rfl rfl ?_
  conv => whnf
  repeat (refine VC.mk (by first | exact rfl | exact fun h => h | exact fun h => ⟨h, h⟩ | exact trivial | (intro h; rw [h]; rfl) | (intro h; simp [h]; done) | (simp only [okI, Rw.rng] at *; first | omega | (simp_all; done) | (simp_all; omega))) ?_; conv => whnf)
  refine LoopZ.same [0, 1, 9, 10] (fun i : Nat => [(11, .int i)]) (fun i => i ≤ a.length ∧ i ≤ b.length ∧ cmpL a b = cmpL (a.drop i) (b.drop i)) (fun i => a.length - i) 0 rfl (by decide) rfl (fun _ => rfl) ⟨by omega, by omega, rfl⟩ ⟨⟨_, rfl, rfl⟩, trivial⟩ ?_
  conv => whnf
  refine ⟨rfl, ?_⟩
  rintro i ⟨hi, hj, he⟩
  conv => whnf
  repeat (refine VC.mk (by first | exact rfl | exact fun h => h | exact fun h => ⟨h, h⟩ | exact trivial | (intro h; rw [h]; rfl) | (intro h; simp [h]; done) | (simp only [okI, Rw.rng] at *; first | omega | (simp_all; done) | (simp_all; omega))) ?_; conv => whnf)
  refine Fork.mk (fun h3 => ?_) (fun h3 => ?_)
  · have hi' : i < a.length := by simpa using h3
    conv => whnf
    repeat (refine VC.mk (by first | exact rfl | exact fun h => h | exact fun h => ⟨h, h⟩ | exact trivial | (intro h; rw [h]; rfl) | (intro h; simp [h]; done) | (simp only [okI, Rw.rng] at *; first | omega | (simp_all; done) | (simp_all; omega))) ?_; conv => whnf)
    refine Fork.mk (fun h4 => ?_) (fun h4 => ?_)
    · conv => whnf
      repeat (refine VC.mk (by first | exact rfl | exact fun h => h | exact fun h => ⟨h, h⟩ | exact trivial | (intro h; rw [h]; rfl) | (intro h; simp [h]; done) | (simp only [okI, Rw.rng] at *; first | omega | (simp_all; done) | (simp_all; omega))) ?_; conv => whnf)
      have hb' : b.length ≤ i := by simpa using h4
      refine EndZ.int ?_
      rw [he, cmpL_end (.inr hb') hi hj, if_neg (by omega), if_pos (by omega)]
    · have hb' : i < b.length := by simpa using h4
      conv => whnf
      repeat (refine VC.mk (by first | exact rfl | exact fun h => h | exact fun h => ⟨h, h⟩ | exact trivial | (intro h; rw [h]; rfl) | (intro h; simp [h]; done) | (simp only [okI, Rw.rng] at *; first | omega | (simp_all; done) | (simp_all; omega))) ?_; conv => whnf)
      refine CallZ.pure (S.cmp_Compare_int _ _) rfl ?_
      rw [cmpL_step hi' hb'] at he
      conv => whnf
      repeat (refine VC.mk (by first | exact rfl | exact fun h => h | exact fun h => ⟨h, h⟩ | exact trivial | (intro h; rw [h]; rfl) | (intro h; simp [h]; done) | (simp only [okI, Rw.rng] at *; first | omega | (simp_all; done) | (simp_all; omega))) ?_; conv => whnf)
      simp only [Int.toNat_natCast]
      refine Fork.mk (fun h5 => ?_) (fun h5 => ?_)
      · conv => whnf
        repeat (refine VC.mk (by first | exact rfl | exact fun h => h | exact fun h => ⟨h, h⟩ | exact trivial | (intro h; rw [h]; rfl) | (intro h; simp [h]; done) | (simp only [okI, Rw.rng] at *; first | omega | (simp_all; done) | (simp_all; omega))) ?_; conv => whnf)
        refine EndZ.int ?_
        rw [he]
        simp only [bne_iff_ne, ne_eq, Int.toNat_natCast] at h5 ⊢
        generalize a.getD i 0 = x at h5 ⊢
        generalize b.getD i 0 = y at h5 ⊢
        unfold cmpI at h5 ⊢
        by_cases h6 : x < y
        · simp [h6]
        · by_cases h7 : y < x
          · simp [h6, h7]
          · simp [h6, h7] at h5
      · conv => whnf
        repeat (refine VC.mk (by first | exact rfl | exact fun h => h | exact fun h => ⟨h, h⟩ | exact trivial | (intro h; rw [h]; rfl) | (intro h; simp [h]; done) | (simp only [okI, Rw.rng] at *; first | omega | (simp_all; done) | (simp_all; omega))) ?_; conv => whnf)
        have h6 : ¬ a.getD i 0 < b.getD i 0 ∧ ¬ b.getD i 0 < a.getD i 0 := by
          simp only [bne_eq_false_iff_eq, Int.toNat_natCast] at h5
          generalize a.getD i 0 = x at h5 ⊢
          generalize b.getD i 0 = y at h5 ⊢
          unfold cmpI at h5
          by_cases h6 : x < y
          · simp [h6] at h5
          · by_cases h7 : y < x
            · simp [h6, h7] at h5
            · exact ⟨h6, h7⟩
        refine ⟨i + 1, ⟨by omega, by omega, by rw [he, if_neg h6.1, if_neg h6.2]⟩, by omega, ⟨⟨_, rfl, rfl⟩, trivial⟩, ?_, rfl⟩
        repeat' (first | exact trivial | exact ⟨_, rfl, rfl⟩ | apply And.intro)
  · have hi' : a.length ≤ i := by simpa using h3
    conv => whnf
    repeat (refine VC.mk (by first | exact rfl | exact fun h => h | exact fun h => ⟨h, h⟩ | exact trivial | (intro h; rw [h]; rfl) | (intro h; simp [h]; done) | (simp only [okI, Rw.rng] at *; first | omega | (simp_all; done) | (simp_all; omega))) ?_; conv => whnf)
    refine Fork.mk (fun h4 => ?_) (fun h4 => ?_)
    · conv => whnf
      repeat (refine VC.mk (by first | exact rfl | exact fun h => h | exact fun h => ⟨h, h⟩ | exact trivial | (intro h; rw [h]; rfl) | (intro h; simp [h]; done) | (simp only [okI, Rw.rng] at *; first | omega | (simp_all; done) | (simp_all; omega))) ?_; conv => whnf)
      refine EndZ.int ?_
      rw [he, cmpL_end (.inl hi') hi hj, if_pos (by simpa using h4)]
    · conv => whnf
      repeat (refine VC.mk (by first | exact rfl | exact fun h => h | exact fun h => ⟨h, h⟩ | exact trivial | (intro h; rw [h]; rfl) | (intro h; simp [h]; done) | (simp only [okI, Rw.rng] at *; first | omega | (simp_all; done) | (simp_all; omega))) ?_; conv => whnf)
      refine EndZ.int ?_
      have : b.length ≤ a.length := by simpa using h4
      rw [he, cmpL_end (.inl hi') hi hj, if_neg (by omega), if_neg (by omega)]

theorem S.cmp_Or_int (x y : Int) (f : Bool) : SpecZ Tryz.prog F.cmp_Or_int [.row 0 f (.ints [x, y])] (.int (if x ≠ 0 then x else y)) := by
  refine SpecZ.of Bd.cmp_Or_int (by simp) rfl rfl ?_
  conv => whnf
  repeat (refine VC.mk (by first | exact rfl | exact fun h => h | exact fun h => ⟨h, h⟩ | exact trivial | (intro h; rw [h]; rfl) | (intro h; simp [h]; done) | (simp only [okI, Rw.rng] at *; first | omega | (simp_all; done) | (simp_all; omega))) ?_; conv => whnf)
  refine LoopZ.same [3, 6, 7] (fun i : Nat => [(8, .int i)]) (fun i => i ≤ 2 ∧ (0 < i → x = 0) ∧ (1 < i → y = 0)) (fun i => 2 - i) 0 rfl (by decide) rfl (fun _ => rfl) ⟨by omega, by omega, by omega⟩ ⟨⟨_, rfl, rfl⟩, trivial⟩ ?_
  conv => whnf
  refine ⟨rfl, ?_⟩
  rintro i ⟨hi, h0, h1⟩
  conv => whnf
  repeat (refine VC.mk (by first | exact rfl | exact fun h => h | exact fun h => ⟨h, h⟩ | exact trivial | (intro h; rw [h]; rfl) | (intro h; simp [h]; done) | (simp only [okI, Rw.rng] at *; first | omega | (simp_all; done) | (simp_all; omega))) ?_; conv => whnf)
  refine Fork.mk (fun h3 => ?_) (fun h3 => ?_)
  · have hi' : i < 2 := by simp at h3; omega
    conv => whnf
    repeat (refine VC.mk (by first | (simp only [Rw.rng, List.length_cons, List.length_nil]; omega) | first | exact rfl | exact fun h => h | exact fun h => ⟨h, h⟩ | exact trivial | (intro h; rw [h]; rfl) | (intro h; simp [h]; done) | (simp only [okI, Rw.rng] at *; first | omega | (simp_all; done) | (simp_all; omega))) ?_; conv => whnf)
    refine Fork.mk (fun h4 => ?_) (fun h4 => ?_)
    · conv => whnf
      repeat (refine VC.mk (by first | exact rfl | exact fun h => h | exact fun h => ⟨h, h⟩ | exact trivial | (intro h; rw [h]; rfl) | (intro h; simp [h]; done) | (simp only [okI, Rw.rng] at *; first | omega | (simp_all; done) | (simp_all; omega))) ?_; conv => whnf)
      refine EndZ.int ?_
      simp only [Int.toNat_natCast, bne_iff_ne, ne_eq] at h4 ⊢
      by_cases e : i = 0
      · subst e; simp at h4 ⊢; simp [h4]
      · have : i = 1 := by omega
        subst this; simp at h4 ⊢; simp [h0]
    · conv => whnf
      repeat (refine VC.mk (by first | exact rfl | exact fun h => h | exact fun h => ⟨h, h⟩ | exact trivial | (intro h; rw [h]; rfl) | (intro h; simp [h]; done) | (simp only [okI, Rw.rng] at *; first | omega | (simp_all; done) | (simp_all; omega))) ?_; conv => whnf)
      refine ⟨i + 1, ⟨by omega, fun _ => ?_, fun hlt => ?_⟩, by omega, ⟨⟨_, rfl, rfl⟩, trivial⟩, ?_, rfl⟩
      · by_cases e : i = 0
        · subst e; simpa using h4
        · exact h0 (by omega)
      · have : i = 1 := by omega
        subst this; simpa using h4
      · repeat' (first | exact trivial | exact ⟨_, rfl, rfl⟩ | apply And.intro)
  · have : i = 2 := by simp at h3; omega
    subst this
    conv => whnf
    repeat (refine VC.mk (by first | exact rfl | exact fun h => h | exact fun h => ⟨h, h⟩ | exact trivial | (intro h; rw [h]; rfl) | (intro h; simp [h]; done) | (simp only [okI, Rw.rng] at *; first | omega | (simp_all; done) | (simp_all; omega))) ?_; conv => whnf)
    refine EndZ.int ?_
    simp [h0, h1]

theorem S.cover_Compare (a b : Elem) (ha : a.counts.length < 2^40) (hb : b.counts.length < 2^40) : SpecZ Tryz.prog F.cover_Compare [.dat (.elem a), .dat (.elem b)] (.int (cmpE a b)) := by
  refine SpecZ.of Bd.cover_Compare (by simp) rfl rfl ?_
  conv => whnf
  repeat (refine VC.mk (by first | exact rfl | exact fun h => h | exact fun h => ⟨h, h⟩ | exact trivial | (intro h; rw [h]; rfl) | (intro h; simp [h]; done) | (simp only [okI, Rw.rng] at *; first | omega | (simp_all; done) | (simp_all; omega))) ?_; conv => whnf)
  refine CallZ.pure (S.cmp_Compare_int a.value b.value) rfl ?_
  conv => whnf
  repeat (refine VC.mk (by first | exact rfl | exact fun h => h | exact fun h => ⟨h, h⟩ | exact trivial | (intro h; rw [h]; rfl) | (intro h; simp [h]; done) | (simp only [okI, Rw.rng] at *; first | omega | (simp_all; done) | (simp_all; omega))) ?_; conv => whnf)
  refine CallZ.pure (S.slices_Compare a.counts b.counts ha hb) rfl ?_
  conv => whnf
  repeat (refine VC.mk (by first | exact rfl | exact fun h => h | exact fun h => ⟨h, h⟩ | exact trivial | (intro h; rw [h]; rfl) | (intro h; simp [h]; done) | (simp only [okI, Rw.rng] at *; first | omega | (simp_all; done) | (simp_all; omega))) ?_; conv => whnf)
  refine CallZ.pure (S.cmp_Or_int _ _ true) rfl ?_
  conv => whnf
  repeat (refine VC.mk (by first | exact rfl | exact fun h => h | exact fun h => ⟨h, h⟩ | exact trivial | (intro h; rw [h]; rfl) | (intro h; simp [h]; done) | (simp only [okI, Rw.rng] at *; first | omega | (simp_all; done) | (simp_all; omega))) ?_; conv => whnf)
  refine EndZ.int ?_
  unfold cmpE cmpI
  by_cases h6 : a.value < b.value
  · simp [h6]
  · by_cases h7 : b.value < a.value
    · simp [h6, h7]
    · simp [h6, h7]

theorem S.r05_Leq (a b : Elem) (ha : a.counts.length < 2^40) (hb : b.counts.length < 2^40) : SpecZ Tryz.prog F.r05_Leq [.dat (.elem a), .dat (.elem b)] (.bool (leqE a b)) := by
  refine SpecZ.of Bd.r05_Leq (by simp) rfl rfl ?_
  conv => whnf
  repeat (refine VC.mk (by first | exact rfl | exact fun h => h | exact fun h => ⟨h, h⟩ | exact trivial | (intro h; rw [h]; rfl) | (intro h; simp [h]; done) | (simp only [okI, Rw.rng] at *; first | omega | (simp_all; done) | (simp_all; omega))) ?_; conv => whnf)
  refine Fork.mk (fun h1 => ?_) (fun h1 => ?_)
  · conv => whnf
    repeat (refine VC.mk (by first | exact rfl | exact fun h => h | exact fun h => ⟨h, h⟩ | exact trivial | (intro h; rw [h]; rfl) | (intro h; simp [h]; done) | (simp only [okI, Rw.rng] at *; first | omega | (simp_all; done) | (simp_all; omega))) ?_; conv => whnf)
    refine EndZ.bool ?_
    by_cases hv : a.value = b.value
    · have : leqL a.counts b.counts = false := by
        rw [Bool.eq_false_iff]; intro h; rw [leqL_iff] at h; simp [hv, h.1] at h1
      simp [leqE, this]
    · simp [leqE, hv]
  · have h2 : a.value = b.value ∧ a.counts.length = b.counts.length := by
      by_cases hv : a.value = b.value
      · simp [hv] at h1; exact ⟨hv, by omega⟩
      · simp [hv] at h1
    conv => whnf
    repeat (refine VC.mk (by first | exact rfl | exact fun h => h | exact fun h => ⟨h, h⟩ | exact trivial | (intro h; rw [h]; rfl) | (intro h; simp [h]; done) | (simp only [okI, Rw.rng] at *; first | omega | (simp_all; done) | (simp_all; omega))) ?_; conv => whnf)
    refine LoopZ.same [2, 3] (fun i : Nat => [(5, .int i)]) (fun i => i ≤ a.counts.length ∧ ∀ j, j < i → a.counts.getD j 0 ≤ b.counts.getD j 0) (fun i => a.counts.length - i) 0 rfl (by decide) rfl (fun _ => rfl) ⟨by omega, fun j hj => by omega⟩ ⟨⟨_, rfl, rfl⟩, trivial⟩ ?_
    conv => whnf
    refine ⟨rfl, ?_⟩
    rintro i ⟨hi, hall⟩
    conv => whnf
    repeat (refine VC.mk (by first | exact rfl | exact fun h => h | exact fun h => ⟨h, h⟩ | exact trivial | (intro h; rw [h]; rfl) | (intro h; simp [h]; done) | (simp only [okI, Rw.rng] at *; first | omega | (simp_all; done) | (simp_all; omega))) ?_; conv => whnf)
    refine Fork.mk (fun h3 => ?_) (fun h3 => ?_)
    · have hi' : i < a.counts.length := by simpa using h3
      conv => whnf
      repeat (refine VC.mk (by first | exact rfl | exact fun h => h | exact fun h => ⟨h, h⟩ | exact trivial | (intro h; rw [h]; rfl) | (intro h; simp [h]; done) | (simp only [okI, Rw.rng] at *; first | omega | (simp_all; done) | (simp_all; omega))) ?_; conv => whnf)
      refine Fork.mk (fun h4 => ?_) (fun h4 => ?_)
      · conv => whnf
        repeat (refine VC.mk (by first | exact rfl | exact fun h => h | exact fun h => ⟨h, h⟩ | exact trivial | (intro h; rw [h]; rfl) | (intro h; simp [h]; done) | (simp only [okI, Rw.rng] at *; first | omega | (simp_all; done) | (simp_all; omega))) ?_; conv => whnf)
        refine EndZ.bool ?_
        have : leqL a.counts b.counts = false := by
          rw [Bool.eq_false_iff]; intro h; rw [leqL_iff] at h; have := h.2 i hi'; simp only [Int.toNat_natCast, decide_eq_true_eq] at h4; omega
        simp [leqE, this]
      · conv => whnf
        repeat (refine VC.mk (by first | exact rfl | exact fun h => h | exact fun h => ⟨h, h⟩ | exact trivial | (intro h; rw [h]; rfl) | (intro h; simp [h]; done) | (simp only [okI, Rw.rng] at *; first | omega | (simp_all; done) | (simp_all; omega))) ?_; conv => whnf)
        refine ⟨i + 1, ⟨by omega, fun j hj => ?_⟩, by omega, ⟨⟨_, rfl, rfl⟩, trivial⟩, ?_, rfl⟩
        · by_cases e : j = i
          · subst e; simp only [Int.toNat_natCast, decide_eq_false_iff_not] at h4; omega
          · exact hall j (by omega)
        · repeat' (first | exact trivial | exact ⟨_, rfl, rfl⟩ | apply And.intro)
    · conv => whnf
      repeat (refine VC.mk (by first | exact rfl | exact fun h => h | exact fun h => ⟨h, h⟩ | exact trivial | (intro h; rw [h]; rfl) | (intro h; simp [h]; done) | (simp only [okI, Rw.rng] at *; first | omega | (simp_all; done) | (simp_all; omega))) ?_; conv => whnf)
      refine EndZ.bool ?_
      have hi' : a.counts.length ≤ i := by simpa using h3
      rw [Bool.eq_iff_iff]; simp only [leqE, Bool.and_eq_true, beq_iff_eq, iff_true]
      exact ⟨h2.1, leqL_iff.2 ⟨h2.2, fun j hj => hall j (by omega)⟩⟩
end Go.Proofs.YtpcmibeefiajaaaGreatDoor
namespace Go.Proofs.YtpcmibeefiajaaaGreatDoor
open Go.Ab Go.Proofs
set_option maxRecDepth 100000

def smallE (l : List Elem) : Prop := ∀ e ∈ l, e.counts.length < 2^40
theorem smallE.get {l : List Elem} (h : smallE l) (i : Nat) : (l.getD i default).counts.length < 2^40 := by
  rw [List.getD_eq_getElem?_getD]
  cases e : l[i]? with
  | none => show ([] : List Int).length < 2^40; decide
  | some x => exact h x (List.mem_of_getElem? e)

theorem any_take {α : Type} {l : List α} {p : α → Bool} {d : α} {i : Nat} (hi : i < l.length) (h : (l.take i).any p = false) : (l.take (i + 1)).any p = p (l.getD i d) := by
  rw [List.take_add_one, List.any_append, h, Bool.false_or]
  simp [hi]
theorem any_of_get {α : Type} {l : List α} {p : α → Bool} {d : α} {i : Nat} (hi : i < l.length) (h : p (l.getD i d) = true) : l.any p = true := by
  rw [List.any_eq_true]
  exact ⟨l[i], List.getElem_mem hi, by simpa [hi] using h⟩

theorem S.cover_Contains (l : List Elem) (e : Elem) (f : Bool) (hl : l.length < 2^40) (hs : smallE l) (he : e.counts.length < 2^40) : SpecZ Tryz.prog F.cover_Contains [.row 3 f (.elems l), .dat (.elem e)] (.bool (l.any fun b => leqE b e)) := by
  refine SpecZ.of Bd.cover_Contains (by simp) rfl rfl ?_
  conv => whnf
  repeat (refine VC.mk (by first | exact rfl | exact fun h => h | exact fun h => ⟨h, h⟩ | exact trivial | (intro h; rw [h]; rfl) | (intro h; simp [h]; done) | (simp only [okI, Rw.rng] at *; first | omega | (simp_all; done) | (simp_all; omega))) ?_; conv => whnf)
  refine LoopZ.same [3, 7, 8] (fun i : Nat => [(9, .int i)]) (fun i => i ≤ l.length ∧ (l.take i).any (fun b => leqE b e) = false) (fun i => l.length - i) 0 rfl (by decide) rfl (fun _ => rfl) ⟨by omega, by simp⟩ ⟨⟨_, rfl, rfl⟩, trivial⟩ ?_
  conv => whnf
  refine ⟨rfl, ?_⟩
  rintro i ⟨hi, hall⟩
  conv => whnf
  repeat (refine VC.mk (by first | exact rfl | exact fun h => h | exact fun h => ⟨h, h⟩ | exact trivial | (intro h; rw [h]; rfl) | (intro h; simp [h]; done) | (simp only [okI, Rw.rng] at *; first | omega | (simp_all; done) | (simp_all; omega))) ?_; conv => whnf)
  refine Fork.mk (fun h3 => ?_) (fun h3 => ?_)
  · have hi' : i < l.length := by simpa using h3
    conv => whnf
    repeat (refine VC.mk (by first | exact rfl | exact fun h => h | exact fun h => ⟨h, h⟩ | exact trivial | (intro h; rw [h]; rfl) | (intro h; simp [h]; done) | (simp only [okI, Rw.rng] at *; first | omega | (simp_all; done) | (simp_all; omega))) ?_; conv => whnf)
    refine CallZ.pure (S.cover_Leq _ _ (by simpa using hs.get i) he) rfl ?_
    conv => whnf
    repeat (refine VC.mk (by first | exact rfl | exact fun h => h | exact fun h => ⟨h, h⟩ | exact trivial | (intro h; rw [h]; rfl) | (intro h; simp [h]; done) | (simp only [okI, Rw.rng] at *; first | omega | (simp_all; done) | (simp_all; omega))) ?_; conv => whnf)
    refine Fork.mk (fun h4 => ?_) (fun h4 => ?_)
    · conv => whnf
      repeat (refine VC.mk (by first | exact rfl | exact fun h => h | exact fun h => ⟨h, h⟩ | exact trivial | (intro h; rw [h]; rfl) | (intro h; simp [h]; done) | (simp only [okI, Rw.rng] at *; first | omega | (simp_all; done) | (simp_all; omega))) ?_; conv => whnf)
      refine EndZ.bool ?_
      simp only [Int.toNat_natCast] at h4
      exact any_of_get hi' h4
    · conv => whnf
      repeat (refine VC.mk (by first | exact rfl | exact fun h => h | exact fun h => ⟨h, h⟩ | exact trivial | (intro h; rw [h]; rfl) | (intro h; simp [h]; done) | (simp only [okI, Rw.rng] at *; first | omega | (simp_all; done) | (simp_all; omega))) ?_; conv => whnf)
      simp only [Int.toNat_natCast] at h4
      refine ⟨i + 1, ⟨by omega, by rw [any_take hi' hall]; exact h4⟩, by omega, ⟨⟨_, rfl, rfl⟩, trivial⟩, ?_, rfl⟩
      repeat' (first | exact trivial | exact ⟨_, rfl, rfl⟩ | apply And.intro)
  · conv => whnf
    repeat (refine VC.mk (by first | exact rfl | exact fun h => h | exact fun h => ⟨h, h⟩ | exact trivial | (intro h; rw [h]; rfl) | (intro h; simp [h]; done) | (simp only [okI, Rw.rng] at *; first | omega | (simp_all; done) | (simp_all; omega))) ?_; conv => whnf)
    refine EndZ.bool ?_
    have hi' : l.length ≤ i := by simpa using h3
    rw [List.take_of_length_le hi'] at hall; exact hall

theorem S.r05_Contains (l : List Elem) (e : Elem) (f : Bool) (hl : l.length < 2^40) (hs : smallE l) (he : e.counts.length < 2^40) : SpecZ Tryz.prog F.r05_Contains [.row 3 f (.elems l), .dat (.elem e)] (.bool (l.any fun b => leqE b e)) := by
  refine SpecZ.of Bd.r05_Contains (by simp) rfl rfl ?_
  conv => whnf
  repeat (refine VC.mk (by first | exact rfl | exact fun h => h | exact fun h => ⟨h, h⟩ | exact trivial | (intro h; rw [h]; rfl) | (intro h; simp [h]; done) | (simp only [okI, Rw.rng] at *; first | omega | (simp_all; done) | (simp_all; omega))) ?_; conv => whnf)
  refine LoopZ.same [0, 3] (fun i : Nat => [(5, .int i)]) (fun i => i ≤ l.length ∧ (l.take i).any (fun b => leqE b e) = false) (fun i => l.length - i) 0 rfl (by decide) rfl (fun _ => rfl) ⟨by omega, by simp⟩ ⟨⟨_, rfl, rfl⟩, trivial⟩ ?_
  conv => whnf
  refine ⟨rfl, ?_⟩
  rintro i ⟨hi, hall⟩
  conv => whnf
  repeat (refine VC.mk (by first | exact rfl | exact fun h => h | exact fun h => ⟨h, h⟩ | exact trivial | (intro h; rw [h]; rfl) | (intro h; simp [h]; done) | (simp only [okI, Rw.rng] at *; first | omega | (simp_all; done) | (simp_all; omega))) ?_; conv => whnf)
  refine Fork.mk (fun h3 => ?_) (fun h3 => ?_)
  · have hi' : i < l.length := by simpa using h3
    conv => whnf
    repeat (refine VC.mk (by first | exact rfl | exact fun h => h | exact fun h => ⟨h, h⟩ | exact trivial | (intro h; rw [h]; rfl) | (intro h; simp [h]; done) | (simp only [okI, Rw.rng] at *; first | omega | (simp_all; done) | (simp_all; omega))) ?_; conv => whnf)
    refine CallZ.pure (S.r05_Leq _ _ (by simpa using hs.get i) he) rfl ?_
    conv => whnf
    repeat (refine VC.mk (by first | exact rfl | exact fun h => h | exact fun h => ⟨h, h⟩ | exact trivial | (intro h; rw [h]; rfl) | (intro h; simp [h]; done) | (simp only [okI, Rw.rng] at *; first | omega | (simp_all; done) | (simp_all; omega))) ?_; conv => whnf)
    refine Fork.mk (fun h4 => ?_) (fun h4 => ?_)
    · conv => whnf
      repeat (refine VC.mk (by first | exact rfl | exact fun h => h | exact fun h => ⟨h, h⟩ | exact trivial | (intro h; rw [h]; rfl) | (intro h; simp [h]; done) | (simp only [okI, Rw.rng] at *; first | omega | (simp_all; done) | (simp_all; omega))) ?_; conv => whnf)
      refine EndZ.bool ?_
      simp only [Int.toNat_natCast] at h4
      exact any_of_get hi' h4
    · conv => whnf
      repeat (refine VC.mk (by first | exact rfl | exact fun h => h | exact fun h => ⟨h, h⟩ | exact trivial | (intro h; rw [h]; rfl) | (intro h; simp [h]; done) | (simp only [okI, Rw.rng] at *; first | omega | (simp_all; done) | (simp_all; omega))) ?_; conv => whnf)
      simp only [Int.toNat_natCast] at h4
      refine ⟨i + 1, ⟨by omega, by rw [any_take hi' hall]; exact h4⟩, by omega, ⟨⟨_, rfl, rfl⟩, trivial⟩, ?_, rfl⟩
      repeat' (first | exact trivial | exact ⟨_, rfl, rfl⟩ | apply And.intro)
  · conv => whnf
    repeat (refine VC.mk (by first | exact rfl | exact fun h => h | exact fun h => ⟨h, h⟩ | exact trivial | (intro h; rw [h]; rfl) | (intro h; simp [h]; done) | (simp only [okI, Rw.rng] at *; first | omega | (simp_all; done) | (simp_all; omega))) ?_; conv => whnf)
    refine EndZ.bool ?_
    have hi' : l.length ≤ i := by simpa using h3
    rw [List.take_of_length_le hi'] at hall; exact hall

theorem S.r05_Lists (a b : List Int) (ha : a.length < 2^40) (hb : b.length < 2^40) : SpecZ Tryz.prog F.r05_Lists [.row 0 false (.ints a), .row 0 false (.ints b)] (.int (cmpL a b)) := by
  refine SpecZ.of Bd.r05_Lists (by simp) rfl rfl ?_
  conv => whnf
  repeat (refine VC.mk (by first | exact rfl | exact fun h => h | exact fun h => ⟨h, h⟩ | exact trivial | (intro h; rw [h]; rfl) | (intro h; simp [h]; done) | (simp only [okI, Rw.rng] at *; first | omega | (simp_all; done) | (simp_all; omega))) ?_; conv => whnf)
  refine LoopZ.same [0, 1] (fun i : Nat => [(5, .int i)]) (fun i => i ≤ a.length ∧ i ≤ b.length ∧ cmpL a b = cmpL (a.drop i) (b.drop i)) (fun i => a.length - i) 0 rfl (by decide) rfl (fun _ => rfl) ⟨by omega, by omega, rfl⟩ ⟨⟨_, rfl, rfl⟩, trivial⟩ ?_
  conv => whnf
  refine ⟨rfl, ?_⟩
  rintro i ⟨hi, hj, he⟩
  conv => whnf
  repeat (refine VC.mk (by first | exact rfl | exact fun h => h | exact fun h => ⟨h, h⟩ | exact trivial | (intro h; rw [h]; rfl) | (intro h; simp [h]; done) | (simp only [okI, Rw.rng] at *; first | omega | (simp_all; done) | (simp_all; omega))) ?_; conv => whnf)
  refine Fork.mk (fun h3 => ?_) (fun h3 => ?_)
  · have hi' : i < a.length ∧ i < b.length := by
      by_cases h : i < a.length
      · simp [h] at h3; exact ⟨h, by omega⟩
      · simp [h] at h3
    rw [cmpL_step hi'.1 hi'.2] at he
    obtain ⟨hi1, hi2⟩ := hi'
    conv => whnf
    repeat (refine VC.mk (by first | exact rfl | exact fun h => h | exact fun h => ⟨h, h⟩ | exact trivial | (intro h; rw [h]; rfl) | (intro h; simp [h]; done) | (simp only [okI, Rw.rng] at *; first | omega | (simp_all; done) | (simp_all; omega))) ?_; conv => whnf)
    refine Fork.mk (fun h5 => ?_) (fun h5 => ?_)
    · conv => whnf
      repeat (refine VC.mk (by first | exact rfl | exact fun h => h | exact fun h => ⟨h, h⟩ | exact trivial | (intro h; rw [h]; rfl) | (intro h; simp [h]; done) | (simp only [okI, Rw.rng] at *; first | omega | (simp_all; done) | (simp_all; omega))) ?_; conv => whnf)
      refine EndZ.int ?_
      simp only [Int.toNat_natCast, decide_eq_true_eq] at h5
      rw [he, if_pos h5]
    · conv => whnf
      repeat (refine VC.mk (by first | exact rfl | exact fun h => h | exact fun h => ⟨h, h⟩ | exact trivial | (intro h; rw [h]; rfl) | (intro h; simp [h]; done) | (simp only [okI, Rw.rng] at *; first | omega | (simp_all; done) | (simp_all; omega))) ?_; conv => whnf)
      simp only [Int.toNat_natCast, decide_eq_false_iff_not] at h5
      refine Fork.mk (fun h6 => ?_) (fun h6 => ?_)
      · conv => whnf
        repeat (refine VC.mk (by first | exact rfl | exact fun h => h | exact fun h => ⟨h, h⟩ | exact trivial | (intro h; rw [h]; rfl) | (intro h; simp [h]; done) | (simp only [okI, Rw.rng] at *; first | omega | (simp_all; done) | (simp_all; omega))) ?_; conv => whnf)
        refine EndZ.int ?_
        simp only [Int.toNat_natCast, decide_eq_true_eq] at h6
        rw [he, if_neg h5, if_pos h6]
      · conv => whnf
        repeat (refine VC.mk (by first | exact rfl | exact fun h => h | exact fun h => ⟨h, h⟩ | exact trivial | (intro h; rw [h]; rfl) | (intro h; simp [h]; done) | (simp only [okI, Rw.rng] at *; first | omega | (simp_all; done) | (simp_all; omega))) ?_; conv => whnf)
        simp only [Int.toNat_natCast, decide_eq_false_iff_not] at h6
        refine ⟨i + 1, ⟨by omega, by omega, by rw [he, if_neg h5, if_neg h6]⟩, by omega, ⟨⟨_, rfl, rfl⟩, trivial⟩, ?_, rfl⟩
        repeat' (first | exact trivial | exact ⟨_, rfl, rfl⟩ | apply And.intro)
  · have hi' : a.length ≤ i ∨ b.length ≤ i := by
      by_cases h : i < a.length
      · simp [h] at h3; exact .inr (by omega)
      · exact .inl (by omega)
    have hx := cmpL_end hi' hi hj
    rw [← he] at hx
    conv => whnf
    repeat (refine VC.mk (by first | exact rfl | exact fun h => h | exact fun h => ⟨h, h⟩ | exact trivial | (intro h; rw [h]; rfl) | (intro h; simp [h]; done) | (simp only [okI, Rw.rng] at *; first | omega | (simp_all; done) | (simp_all; omega))) ?_; conv => whnf)
    refine Fork.mk (fun h4 => ?_) (fun h4 => ?_)
    · conv => whnf
      repeat (refine VC.mk (by first | exact rfl | exact fun h => h | exact fun h => ⟨h, h⟩ | exact trivial | (intro h; rw [h]; rfl) | (intro h; simp [h]; done) | (simp only [okI, Rw.rng] at *; first | omega | (simp_all; done) | (simp_all; omega))) ?_; conv => whnf)
      refine EndZ.int ?_
      rw [hx, if_pos (by simpa using h4)]
    · conv => whnf
      repeat (refine VC.mk (by first | exact rfl | exact fun h => h | exact fun h => ⟨h, h⟩ | exact trivial | (intro h; rw [h]; rfl) | (intro h; simp [h]; done) | (simp only [okI, Rw.rng] at *; first | omega | (simp_all; done) | (simp_all; omega))) ?_; conv => whnf)
      have h5 : ¬ a.length < b.length := by simpa using h4
      refine Fork.mk (fun h6 => ?_) (fun h6 => ?_)
      · conv => whnf
        repeat (refine VC.mk (by first | exact rfl | exact fun h => h | exact fun h => ⟨h, h⟩ | exact trivial | (intro h; rw [h]; rfl) | (intro h; simp [h]; done) | (simp only [okI, Rw.rng] at *; first | omega | (simp_all; done) | (simp_all; omega))) ?_; conv => whnf)
        refine EndZ.int ?_
        rw [hx, if_neg h5, if_pos (by simpa using h6)]
      · conv => whnf
        repeat (refine VC.mk (by first | exact rfl | exact fun h => h | exact fun h => ⟨h, h⟩ | exact trivial | (intro h; rw [h]; rfl) | (intro h; simp [h]; done) | (simp only [okI, Rw.rng] at *; first | omega | (simp_all; done) | (simp_all; omega))) ?_; conv => whnf)
        refine EndZ.int ?_
        rw [hx, if_neg h5, if_neg (by simpa using h6)]

theorem S.r05_Compare (a b : Elem) (ha : a.counts.length < 2^40) (hb : b.counts.length < 2^40) : SpecZ Tryz.prog F.r05_Compare [.dat (.elem a), .dat (.elem b)] (.int (cmpE a b)) := by
  refine SpecZ.of Bd.r05_Compare (by simp) rfl rfl ?_
  conv => whnf
  repeat (refine VC.mk (by first | exact rfl | exact fun h => h | exact fun h => ⟨h, h⟩ | exact trivial | (intro h; rw [h]; rfl) | (intro h; simp [h]; done) | (simp only [okI, Rw.rng] at *; first | omega | (simp_all; done) | (simp_all; omega))) ?_; conv => whnf)
  refine Fork.mk (fun h1 => ?_) (fun h1 => ?_)
  · conv => whnf
    repeat (refine VC.mk (by first | exact rfl | exact fun h => h | exact fun h => ⟨h, h⟩ | exact trivial | (intro h; rw [h]; rfl) | (intro h; simp [h]; done) | (simp only [okI, Rw.rng] at *; first | omega | (simp_all; done) | (simp_all; omega))) ?_; conv => whnf)
    exact EndZ.int (by simp only [decide_eq_true_eq] at h1; simp [cmpE, h1])
  · conv => whnf
    repeat (refine VC.mk (by first | exact rfl | exact fun h => h | exact fun h => ⟨h, h⟩ | exact trivial | (intro h; rw [h]; rfl) | (intro h; simp [h]; done) | (simp only [okI, Rw.rng] at *; first | omega | (simp_all; done) | (simp_all; omega))) ?_; conv => whnf)
    simp only [decide_eq_false_iff_not] at h1
    refine Fork.mk (fun h2 => ?_) (fun h2 => ?_)
    · conv => whnf
      repeat (refine VC.mk (by first | exact rfl | exact fun h => h | exact fun h => ⟨h, h⟩ | exact trivial | (intro h; rw [h]; rfl) | (intro h; simp [h]; done) | (simp only [okI, Rw.rng] at *; first | omega | (simp_all; done) | (simp_all; omega))) ?_; conv => whnf)
      exact EndZ.int (by simp only [decide_eq_true_eq] at h2; simp [cmpE, h1, h2])
    · simp only [decide_eq_false_iff_not] at h2
      conv => whnf
      repeat (refine VC.mk (by first | exact rfl | exact fun h => h | exact fun h => ⟨h, h⟩ | exact trivial | (intro h; rw [h]; rfl) | (intro h; simp [h]; done) | (simp only [okI, Rw.rng] at *; first | omega | (simp_all; done) | (simp_all; omega))) ?_; conv => whnf)
      refine CallZ.pure (S.r05_Lists a.counts b.counts ha hb) rfl ?_
      conv => whnf
      repeat (refine VC.mk (by first | exact rfl | exact fun h => h | exact fun h => ⟨h, h⟩ | exact trivial | (intro h; rw [h]; rfl) | (intro h; simp [h]; done) | (simp only [okI, Rw.rng] at *; first | omega | (simp_all; done) | (simp_all; omega))) ?_; conv => whnf)
      exact EndZ.int (by simp [cmpE, h1, h2])

theorem cmpL_eq : ∀ {a b : List Int}, cmpL a b = 0 ↔ a = b := by
  intro a
  induction a with
  | nil => intro b; cases b <;> simp [cmpL]
  | cons x a ih =>
    intro b
    cases b with
    | nil => simp [cmpL]
    | cons y b =>
      simp only [cmpL]
      split
      · simp; omega
      · split
        · simp; omega
        · rw [ih]; simp; intro _; omega
theorem cmpE_eq {a b : Elem} : cmpE a b = 0 ↔ a = b := by
  obtain ⟨v, c⟩ := a; obtain ⟨w, d⟩ := b
  simp only [cmpE]
  split
  · simp; omega
  · split
    · simp; omega
    · rw [cmpL_eq]; simp; intro _; omega

theorem S.r05_Same (a b : List Elem) (f g : Bool) (ha : a.length < 2^40) (hb : b.length < 2^40) (sa : smallE a) (sb : smallE b) : SpecZ Tryz.prog F.r05_Same [.row 3 f (.elems a), .row 3 g (.elems b)] (.bool (decide (a = b))) := by
  refine SpecZ.of Bd.r05_Same (by simp) rfl rfl ?_
  conv => whnf
  repeat (refine VC.mk (by first | exact rfl | exact fun h => h | exact fun h => ⟨h, h⟩ | exact trivial | (intro h; rw [h]; rfl) | (intro h; simp [h]; done) | (simp only [okI, Rw.rng] at *; first | omega | (simp_all; done) | (simp_all; omega))) ?_; conv => whnf)
  refine Fork.mk (fun h1 => ?_) (fun h1 => ?_)
  · conv => whnf
    repeat (refine VC.mk (by first | exact rfl | exact fun h => h | exact fun h => ⟨h, h⟩ | exact trivial | (intro h; rw [h]; rfl) | (intro h; simp [h]; done) | (simp only [okI, Rw.rng] at *; first | omega | (simp_all; done) | (simp_all; omega))) ?_; conv => whnf)
    refine EndZ.bool ?_
    refine decide_eq_false ?_
    simp at h1
    rintro rfl; exact h1 rfl
  · have hlen : a.length = b.length := by simp at h1; omega
    conv => whnf
    repeat (refine VC.mk (by first | exact rfl | exact fun h => h | exact fun h => ⟨h, h⟩ | exact trivial | (intro h; rw [h]; rfl) | (intro h; simp [h]; done) | (simp only [okI, Rw.rng] at *; first | omega | (simp_all; done) | (simp_all; omega))) ?_; conv => whnf)
    refine LoopZ.same [0, 1] (fun i : Nat => [(5, .int i)]) (fun i => i ≤ a.length ∧ a.take i = b.take i) (fun i => a.length - i) 0 rfl (by decide) rfl (fun _ => rfl) ⟨by omega, by simp⟩ ⟨⟨_, rfl, rfl⟩, trivial⟩ ?_
    conv => whnf
    refine ⟨rfl, ?_⟩
    rintro i ⟨hi, hall⟩
    conv => whnf
    repeat (refine VC.mk (by first | exact rfl | exact fun h => h | exact fun h => ⟨h, h⟩ | exact trivial | (intro h; rw [h]; rfl) | (intro h; simp [h]; done) | (simp only [okI, Rw.rng] at *; first | omega | (simp_all; done) | (simp_all; omega))) ?_; conv => whnf)
    refine Fork.mk (fun h3 => ?_) (fun h3 => ?_)
    · have hi' : i < a.length := by simpa using h3
      conv => whnf
      repeat (refine VC.mk (by first | exact rfl | exact fun h => h | exact fun h => ⟨h, h⟩ | exact trivial | (intro h; rw [h]; rfl) | (intro h; simp [h]; done) | (simp only [okI, Rw.rng] at *; first | omega | (simp_all; done) | (simp_all; omega))) ?_; conv => whnf)
      refine CallZ.pure (S.r05_Compare _ _ (by simpa using sa.get i) (by simpa using sb.get i)) rfl ?_
      conv => whnf
      repeat (refine VC.mk (by first | exact rfl | exact fun h => h | exact fun h => ⟨h, h⟩ | exact trivial | (intro h; rw [h]; rfl) | (intro h; simp [h]; done) | (simp only [okI, Rw.rng] at *; first | omega | (simp_all; done) | (simp_all; omega))) ?_; conv => whnf)
      refine Fork.mk (fun h4 => ?_) (fun h4 => ?_)
      · conv => whnf
        repeat (refine VC.mk (by first | exact rfl | exact fun h => h | exact fun h => ⟨h, h⟩ | exact trivial | (intro h; rw [h]; rfl) | (intro h; simp [h]; done) | (simp only [okI, Rw.rng] at *; first | omega | (simp_all; done) | (simp_all; omega))) ?_; conv => whnf)
        refine EndZ.bool ?_
        refine decide_eq_false ?_
        rintro rfl
        simp only [Int.toNat_natCast, bne_iff_ne, ne_eq] at h4
        exact h4 (cmpE_eq.2 rfl)
      · conv => whnf
        repeat (refine VC.mk (by first | exact rfl | exact fun h => h | exact fun h => ⟨h, h⟩ | exact trivial | (intro h; rw [h]; rfl) | (intro h; simp [h]; done) | (simp only [okI, Rw.rng] at *; first | omega | (simp_all; done) | (simp_all; omega))) ?_; conv => whnf)
        simp only [Int.toNat_natCast, bne_eq_false_iff_eq] at h4
        rw [cmpE_eq] at h4
        refine ⟨i + 1, ⟨by omega, ?_⟩, by omega, ⟨⟨_, rfl, rfl⟩, trivial⟩, ?_, rfl⟩
        · rw [List.take_add_one, List.take_add_one, hall]
          congr 1
          have hb' : i < b.length := by omega
          simp only [List.getD_eq_getElem?_getD, List.getElem?_eq_getElem hi', List.getElem?_eq_getElem hb', Option.getD_some] at h4
          simp [hi', hb', h4]
        · repeat' (first | exact trivial | exact ⟨_, rfl, rfl⟩ | apply And.intro)
    · conv => whnf
      repeat (refine VC.mk (by first | exact rfl | exact fun h => h | exact fun h => ⟨h, h⟩ | exact trivial | (intro h; rw [h]; rfl) | (intro h; simp [h]; done) | (simp only [okI, Rw.rng] at *; first | omega | (simp_all; done) | (simp_all; omega))) ?_; conv => whnf)
      refine EndZ.bool ?_
      have hi' : a.length ≤ i := by simpa using h3
      rw [List.take_of_length_le hi', List.take_of_length_le (by omega)] at hall
      symm; simpa using hall

def wideL (l : List Elem) : Bool := decide (60 < l.length) || l.any fun e => decide (8 < e.counts.length)
theorem S.law05_wide (l : List Elem) (f : Bool) (hl : l.length < 2^40) (hs : smallE l) : SpecZ Tryz.prog F.law05_wide [.row 3 f (.elems l)] (.bool (wideL l)) := by
  refine SpecZ.of Bd.law05_wide (by simp) rfl rfl ?_
  conv => whnf
  repeat (refine VC.mk (by first | exact rfl | exact fun h => h | exact fun h => ⟨h, h⟩ | exact trivial | (intro h; rw [h]; rfl) | (intro h; simp [h]; done) | (simp only [okI, Rw.rng] at *; first | omega | (simp_all; done) | (simp_all; omega))) ?_; conv => whnf)
  refine Fork.mk (fun h1 => ?_) (fun h1 => ?_)
  · conv => whnf
    repeat (refine VC.mk (by first | exact rfl | exact fun h => h | exact fun h => ⟨h, h⟩ | exact trivial | (intro h; rw [h]; rfl) | (intro h; simp [h]; done) | (simp only [okI, Rw.rng] at *; first | omega | (simp_all; done) | (simp_all; omega))) ?_; conv => whnf)
    refine EndZ.bool ?_
    have : 60 < l.length := by simp at h1; omega
    simp [wideL, this]
  · conv => whnf
    repeat (refine VC.mk (by first | exact rfl | exact fun h => h | exact fun h => ⟨h, h⟩ | exact trivial | (intro h; rw [h]; rfl) | (intro h; simp [h]; done) | (simp only [okI, Rw.rng] at *; first | omega | (simp_all; done) | (simp_all; omega))) ?_; conv => whnf)
    have h60 : ¬ 60 < l.length := by simp at h1; omega
    refine LoopZ.same [0] (fun i : Nat => [(3, .int i)]) (fun i => i ≤ l.length ∧ (l.take i).any (fun e => decide (8 < e.counts.length)) = false) (fun i => l.length - i) 0 rfl (by decide) rfl (fun _ => rfl) ⟨by omega, by simp⟩ ⟨⟨_, rfl, rfl⟩, trivial⟩ ?_
    conv => whnf
    refine ⟨rfl, ?_⟩
    rintro i ⟨hi, hall⟩
    conv => whnf
    repeat (refine VC.mk (by first | exact rfl | exact fun h => h | exact fun h => ⟨h, h⟩ | exact trivial | (intro h; rw [h]; rfl) | (intro h; simp [h]; done) | (simp only [okI, Rw.rng] at *; first | omega | (simp_all; done) | (simp_all; omega))) ?_; conv => whnf)
    refine Fork.mk (fun h3 => ?_) (fun h3 => ?_)
    · have hi' : i < l.length := by simpa using h3
      conv => whnf
      repeat (refine VC.mk (by first | exact rfl | exact fun h => h | exact fun h => ⟨h, h⟩ | exact trivial | (intro h; rw [h]; rfl) | (intro h; simp [h]; done) | (simp only [okI, Rw.rng] at *; first | omega | (simp_all; done) | (simp_all; omega))) ?_; conv => whnf)
      refine Fork.mk (fun h4 => ?_) (fun h4 => ?_)
      · conv => whnf
        repeat (refine VC.mk (by first | exact rfl | exact fun h => h | exact fun h => ⟨h, h⟩ | exact trivial | (intro h; rw [h]; rfl) | (intro h; simp [h]; done) | (simp only [okI, Rw.rng] at *; first | omega | (simp_all; done) | (simp_all; omega))) ?_; conv => whnf)
        refine EndZ.bool ?_
        simp only [Int.toNat_natCast] at h4
        have h5 : (l.any fun e => decide (8 < e.counts.length)) = true := any_of_get (d := default) hi' (by simp only [decide_eq_true_eq] at h4 ⊢; omega)
        simp [wideL, h5]
      · conv => whnf
        repeat (refine VC.mk (by first | exact rfl | exact fun h => h | exact fun h => ⟨h, h⟩ | exact trivial | (intro h; rw [h]; rfl) | (intro h; simp [h]; done) | (simp only [okI, Rw.rng] at *; first | omega | (simp_all; done) | (simp_all; omega))) ?_; conv => whnf)
        simp only [Int.toNat_natCast] at h4
        refine ⟨i + 1, ⟨by omega, by rw [any_take (d := default) hi' hall]; simp only [decide_eq_false_iff_not] at h4 ⊢; omega⟩, by omega, ⟨⟨_, rfl, rfl⟩, trivial⟩, ?_, rfl⟩
        repeat' (first | exact trivial | exact ⟨_, rfl, rfl⟩ | apply And.intro)
    · conv => whnf
      repeat (refine VC.mk (by first | exact rfl | exact fun h => h | exact fun h => ⟨h, h⟩ | exact trivial | (intro h; rw [h]; rfl) | (intro h; simp [h]; done) | (simp only [okI, Rw.rng] at *; first | omega | (simp_all; done) | (simp_all; omega))) ?_; conv => whnf)
      refine EndZ.bool ?_
      have hi' : l.length ≤ i := by simpa using h3
      rw [List.take_of_length_le hi'] at hall
      simp only [wideL, hall, Bool.or_false]
      simp only [h60, decide_false]
end Go.Proofs.YtpcmibeefiajaaaGreatDoor
namespace Go.Proofs.YtpcmibeefiajaaaGreatDoor
open Go.Ab Go.Proofs
set_option maxRecDepth 100000

def okN (n : Int) : Bool := decide (0 ≤ n) && decide (n ≤ 1048576)
theorem S.cover_inRange (l : List Int) (f : Bool) (hl : l.length < 2^40) : SpecZ Tryz.prog F.cover_inRange [.row 0 f (.ints l)] (.bool (l.all okN)) := by
  refine SpecZ.of Bd.cover_inRange (by simp) rfl rfl ?_
  conv => whnf
  repeat (refine VC.mk (by first | exact rfl | exact fun h => h | exact fun h => ⟨h, h⟩ | exact trivial | (intro h; rw [h]; rfl) | (intro h; simp [h]; done) | (simp only [okI, Rw.rng] at *; first | omega | (simp_all; done) | (simp_all; omega))) ?_; conv => whnf)
  refine LoopZ.same [5, 6] (fun i : Nat => [(7, .int i)]) (fun i => i ≤ l.length ∧ (l.take i).all okN = true) (fun i => l.length - i) 0 rfl (by decide) rfl (fun _ => rfl) ⟨by omega, by simp⟩ ⟨⟨_, rfl, rfl⟩, trivial⟩ ?_
  conv => whnf
  refine ⟨rfl, ?_⟩
  rintro i ⟨hi, hall⟩
  conv => whnf
  repeat (refine VC.mk (by first | exact rfl | exact fun h => h | exact fun h => ⟨h, h⟩ | exact trivial | (intro h; rw [h]; rfl) | (intro h; simp [h]; done) | (simp only [okI, Rw.rng] at *; first | omega | (simp_all; done) | (simp_all; omega))) ?_; conv => whnf)
  refine Fork.mk (fun h3 => ?_) (fun h3 => ?_)
  · have hi' : i < l.length := by simpa using h3
    conv => whnf
    repeat (refine VC.mk (by first | exact rfl | exact fun h => h | exact fun h => ⟨h, h⟩ | exact trivial | (intro h; rw [h]; rfl) | (intro h; simp [h]; done) | (simp only [okI, Rw.rng] at *; first | omega | (simp_all; done) | (simp_all; omega))) ?_; conv => whnf)
    refine Fork.mk (fun h4 => ?_) (fun h4 => ?_)
    · conv => whnf
      repeat (refine VC.mk (by first | exact rfl | exact fun h => h | exact fun h => ⟨h, h⟩ | exact trivial | (intro h; rw [h]; rfl) | (intro h; simp [h]; done) | (simp only [okI, Rw.rng] at *; first | omega | (simp_all; done) | (simp_all; omega))) ?_; conv => whnf)
      refine EndZ.bool ?_
      simp only [Int.toNat_natCast] at h4
      have h5 : okN (l.getD i 0) = false := by
        have key : ∀ x : Int, (decide (x < 0) || decide (1048576 < x)) = true → okN x = false := by
          intro x h4
          unfold okN
          by_cases h0 : x < 0
          · simp; omega
          · simp [h0] at h4; simp; omega
        exact key _ h4
      rw [Bool.eq_false_iff]
      intro h
      rw [List.all_eq_true] at h
      have := h l[i] (List.getElem_mem hi')
      rw [show l.getD i 0 = l[i] by simp [hi']] at h5
      rw [this] at h5; cases h5
    · conv => whnf
      repeat (refine VC.mk (by first | exact rfl | exact fun h => h | exact fun h => ⟨h, h⟩ | exact trivial | (intro h; rw [h]; rfl) | (intro h; simp [h]; done) | (simp only [okI, Rw.rng] at *; first | omega | (simp_all; done) | (simp_all; omega))) ?_; conv => whnf)
      simp only [Int.toNat_natCast] at h4
      refine ⟨i + 1, ⟨by omega, ?_⟩, by omega, ⟨⟨_, rfl, rfl⟩, trivial⟩, ?_, rfl⟩
      · have h5 : okN (l.getD i 0) = true := by
          have key : ∀ x : Int, (decide (x < 0) || decide (1048576 < x)) = false → okN x = true := by
            intro x h4
            unfold okN
            by_cases h0 : x < 0
            · simp [h0] at h4
            · simp [h0] at h4; simp; omega
          exact key _ h4
        rw [List.take_add_one, List.all_append, hall]
        simpa [hi'] using h5
      · repeat' (first | exact trivial | exact ⟨_, rfl, rfl⟩ | apply And.intro)
  · conv => whnf
    repeat (refine VC.mk (by first | exact rfl | exact fun h => h | exact fun h => ⟨h, h⟩ | exact trivial | (intro h; rw [h]; rfl) | (intro h; simp [h]; done) | (simp only [okI, Rw.rng] at *; first | omega | (simp_all; done) | (simp_all; omega))) ?_; conv => whnf)
    refine EndZ.bool ?_
    have hi' : l.length ≤ i := by simpa using h3
    rw [List.take_of_length_le hi'] at hall; exact hall

def totE (e : Elem) : Int := if 6 < e.counts.length then 0 else if e.counts.all okN = true then e.counts.sum else 0
theorem sum_bound : ∀ {l : List Int}, l.all okN = true → 0 ≤ l.sum ∧ l.sum ≤ l.length * 1048576 := by
  intro l
  induction l with
  | nil => intro _; simp
  | cons x l ih =>
    intro h
    simp only [List.all_cons, Bool.and_eq_true, okN, decide_eq_true_eq] at h
    have := ih h.2
    simp only [List.sum_cons, List.length_cons]
    omega
theorem all_take {l : List Int} (h : l.all okN = true) (i : Nat) : (l.take i).all okN = true := by
  rw [List.all_eq_true] at h ⊢
  exact fun x hx => h x (List.mem_of_mem_take hx)
theorem sum_take {l : List Int} {i : Nat} (hi : i < l.length) : (l.take (i + 1)).sum = (l.take i).sum + l.getD i 0 := by
  rw [List.take_add_one, List.sum_append]; simp [hi]
theorem S.cover_Total (e : Elem) (hl : e.counts.length < 2^40) : SpecZ Tryz.prog F.cover_Total [.dat (.elem e)] (.int (totE e)) := by
  refine SpecZ.of Bd.cover_Total (by simp) rfl rfl ?_
  conv => whnf
  repeat (refine VC.mk (by first | exact rfl | exact fun h => h | exact fun h => ⟨h, h⟩ | exact trivial | (intro h; rw [h]; rfl) | (intro h; simp [h]; done) | (simp only [okI, Rw.rng] at *; first | omega | (simp_all; done) | (simp_all; omega))) ?_; conv => whnf)
  refine CallZ.pureG (fun _ => S.cover_inRange e.counts false hl) rfl ?_
  conv => whnf
  repeat (refine VC.mk (by first | exact rfl | exact fun h => h | exact fun h => ⟨h, h⟩ | exact trivial | (intro h; rw [h]; rfl) | (intro h; simp [h]; done) | (simp only [okI, Rw.rng] at *; first | omega | (simp_all; done) | (simp_all; omega))) ?_; conv => whnf)
  refine Fork.mk (fun h1 => ?_) (fun h1 => ?_)
  · conv => whnf
    repeat (refine VC.mk (by first | exact rfl | exact fun h => h | exact fun h => ⟨h, h⟩ | exact trivial | (intro h; rw [h]; rfl) | (intro h; simp [h]; done) | (simp only [okI, Rw.rng] at *; first | omega | (simp_all; done) | (simp_all; omega))) ?_; conv => whnf)
    refine EndZ.int ?_
    unfold totE
    by_cases h : 6 < e.counts.length
    · rw [if_pos h]
    · rw [if_neg h, if_neg]
      have h' : ¬ (6 : Int) < e.counts.length := by omega
      simp [h'] at h1
      intro hh
      rw [List.all_eq_true] at hh
      obtain ⟨x, hx, hx'⟩ := h1
      exact absurd (hh x hx) (by simp [hx'])
  · have h2 : ¬ 6 < e.counts.length ∧ e.counts.all okN = true := by
      by_cases h : (6 : Int) < e.counts.length
      · simp [h] at h1
      · simp [h] at h1
        exact ⟨by omega, by rw [List.all_eq_true]; exact h1⟩
    conv => whnf
    repeat (refine VC.mk (by first | exact rfl | exact fun h => h | exact fun h => ⟨h, h⟩ | exact trivial | (intro h; rw [h]; rfl) | (intro h; simp [h]; done) | (simp only [okI, Rw.rng] at *; first | omega | (simp_all; done) | (simp_all; omega))) ?_; conv => whnf)
    refine LoopZ.same [17, 18] (fun i : Nat => [(19, .int i), (3, .int (e.counts.take i).sum)]) (fun i => i ≤ e.counts.length) (fun i => e.counts.length - i) 0 rfl (by decide) rfl (fun _ => rfl) (by omega) ⟨⟨_, rfl, rfl⟩, ⟨_, rfl, rfl⟩, trivial⟩ ?_
    conv => whnf
    refine ⟨rfl, ?_⟩
    rintro i hi
    have hb := sum_bound (all_take h2.2 i)
    have hb' : ((e.counts.take i).length : Int) ≤ 6 := by simp; omega
    conv => whnf
    repeat (refine VC.mk (by first | exact rfl | exact fun h => h | exact fun h => ⟨h, h⟩ | exact trivial | (intro h; rw [h]; rfl) | (intro h; simp [h]; done) | (simp only [okI, Rw.rng] at *; first | omega | (simp_all; done) | (simp_all; omega))) ?_; conv => whnf)
    refine Fork.mk (fun h3 => ?_) (fun h3 => ?_)
    · have hi' : i < e.counts.length := by simpa using h3
      have hs := sum_take hi'
      have hc := sum_bound (all_take h2.2 (i + 1))
      have hc' : ((e.counts.take (i + 1)).length : Int) ≤ 6 := by simp; omega
      conv => whnf
      repeat (refine VC.mk (by first | (simp only [okI, Int.toNat_natCast] at *; rw [← hs]; omega) | first | exact rfl | exact fun h => h | exact fun h => ⟨h, h⟩ | exact trivial | (intro h; rw [h]; rfl) | (intro h; simp [h]; done) | (simp only [okI, Rw.rng] at *; first | omega | (simp_all; done) | (simp_all; omega))) ?_; conv => whnf)
      refine ⟨i + 1, by omega, by omega, ⟨⟨_, rfl, rfl⟩, ⟨_, rfl, ?_⟩, trivial⟩, ?_, rfl⟩
      · rw [hs]; simp [V.toT, cndV]
      · repeat' (first | exact trivial | exact ⟨_, rfl, rfl⟩ | apply And.intro)
    · conv => whnf
      repeat (refine VC.mk (by first | exact rfl | exact fun h => h | exact fun h => ⟨h, h⟩ | exact trivial | (intro h; rw [h]; rfl) | (intro h; simp [h]; done) | (simp only [okI, Rw.rng] at *; first | omega | (simp_all; done) | (simp_all; omega))) ?_; conv => whnf)
      refine EndZ.int ?_
      have hi' : e.counts.length ≤ i := by simpa using h3
      rw [List.take_of_length_le hi']
      simp [totE, h2.1, h2.2]

def abvE (x y : Elem) : Bool := leqE y x && (cmpE y x != 0)
theorem S.cover_item_above (x y : Elem) (d : Bool) (hx : x.counts.length < 2^40) (hy : y.counts.length < 2^40) : SpecZ Tryz.prog F.cover_item_above [.agg [.int x.value, .row 0 false (.ints x.counts), .bool d], .dat (.elem y)] (.bool (abvE x y)) := by
  refine SpecZ.of Bd.cover_item_above (by simp) rfl rfl ?_
  conv => whnf
  repeat (refine VC.mk (by first | exact rfl | exact fun h => h | exact fun h => ⟨h, h⟩ | exact trivial | (intro h; rw [h]; rfl) | (intro h; simp [h]; done) | (simp only [okI, Rw.rng] at *; first | omega | (simp_all; done) | (simp_all; omega))) ?_; conv => whnf)
  refine CallZ.pure (S.cover_Leq y x hy hx) rfl ?_
  conv => whnf
  repeat (refine VC.mk (by first | exact rfl | exact fun h => h | exact fun h => ⟨h, h⟩ | exact trivial | (intro h; rw [h]; rfl) | (intro h; simp [h]; done) | (simp only [okI, Rw.rng] at *; first | omega | (simp_all; done) | (simp_all; omega))) ?_; conv => whnf)
  refine CallZ.pureG (fun _ => S.cover_Compare y x hy hx) rfl ?_
  conv => whnf
  repeat (refine VC.mk (by first | exact rfl | exact fun h => h | exact fun h => ⟨h, h⟩ | exact trivial | (intro h; rw [h]; rfl) | (intro h; simp [h]; done) | (simp only [okI, Rw.rng] at *; first | omega | (simp_all; done) | (simp_all; omega))) ?_; conv => whnf)
  refine EndZ.bool ?_
  cases h : leqE y x <;> simp [abvE, h]

def idxE (p : Elem → Bool) (l : List Elem) : Int := if l.any p = true then (l.findIdx p : Int) else -1
theorem findIdx_first {p : Elem → Bool} {l : List Elem} {i : Nat} (hi : i < l.length) (h0 : (l.take i).any p = false) (h1 : p (l.getD i default) = true) : l.findIdx p = i := by
  rw [List.findIdx_eq hi]
  refine ⟨by simpa [hi] using h1, fun j hj => ?_⟩
  rw [List.any_eq_false] at h0
  have := h0 l[j] (by rw [List.mem_take_iff_getElem]; exact ⟨j, by omega, rfl⟩)
  simpa using this

/-- A function value that answers p on small elements. -/
def FnE (v : V) (p : Elem → Bool) : Prop := ∃ f cap, v = .fn f cap ∧ V.freeL cap = true ∧ ∀ y : Elem, y.counts.length < 2^40 → SpecZ Tryz.prog (bif Nat.blt f 4096 then f else f % 4096) (bif Nat.blt f 4096 then .dat (.elem y) :: cap else [.agg cap, .dat (.elem y)]) (.bool (p y))

theorem S.IndexAbove (l : List Elem) (x : Elem) (d f : Bool) (hl : l.length < 2^40) (hs : smallE l) (hx : x.counts.length < 2^40) :
    SpecZ Tryz.prog F.slices_IndexFunc_Lapi_Element_api_Element [.row 3 f (.elems l), .fn (F.cover_item_above + 4096) [.int x.value, .row 0 false (.ints x.counts), .bool d]] (.int (idxE (abvE x) l)) := by
  refine SpecZ.of Bd.slices_IndexFunc_Lapi_Element_api_Element (by simp) rfl rfl ?_
  conv => whnf
  repeat (refine VC.mk (by first | exact rfl | exact fun h => h | exact fun h => ⟨h, h⟩ | exact trivial | (intro h; rw [h]; rfl) | (intro h; simp [h]; done) | (simp only [okI, Rw.rng] at *; first | omega | (simp_all; done) | (simp_all; omega))) ?_; conv => whnf)
  refine LoopZ.same [0, 1, 6, 7] (fun i : Nat => [(8, .int i)]) (fun i => i ≤ l.length ∧ (l.take i).any (abvE x) = false) (fun i => l.length - i) 0 rfl (by decide) rfl (fun _ => rfl) ⟨by omega, by simp⟩ ⟨⟨_, rfl, rfl⟩, trivial⟩ ?_
  conv => whnf
  refine ⟨rfl, ?_⟩
  rintro i ⟨hi, hall⟩
  conv => whnf
  repeat (refine VC.mk (by first | exact rfl | exact fun h => h | exact fun h => ⟨h, h⟩ | exact trivial | (intro h; rw [h]; rfl) | (intro h; simp [h]; done) | (simp only [okI, Rw.rng] at *; first | omega | (simp_all; done) | (simp_all; omega))) ?_; conv => whnf)
  refine Fork.mk (fun h3 => ?_) (fun h3 => ?_)
  · have hi' : i < l.length := by simpa using h3
    conv => whnf
    repeat (refine VC.mk (by first | exact rfl | exact fun h => h | exact fun h => ⟨h, h⟩ | exact trivial | (intro h; rw [h]; rfl) | (intro h; simp [h]; done) | (simp only [okI, Rw.rng] at *; first | omega | (simp_all; done) | (simp_all; omega))) ?_; conv => whnf)
    refine CallZ.pure (S.cover_item_above x (l.getD i default) d hx (hs.get i)) rfl ?_
    conv => whnf
    repeat (refine VC.mk (by first | exact rfl | exact fun h => h | exact fun h => ⟨h, h⟩ | exact trivial | (intro h; rw [h]; rfl) | (intro h; simp [h]; done) | (simp only [okI, Rw.rng] at *; first | omega | (simp_all; done) | (simp_all; omega))) ?_; conv => whnf)
    refine Fork.mk (fun h4 => ?_) (fun h4 => ?_)
    · conv => whnf
      repeat (refine VC.mk (by first | exact rfl | exact fun h => h | exact fun h => ⟨h, h⟩ | exact trivial | (intro h; rw [h]; rfl) | (intro h; simp [h]; done) | (simp only [okI, Rw.rng] at *; first | omega | (simp_all; done) | (simp_all; omega))) ?_; conv => whnf)
      refine EndZ.int ?_
      rw [idxE, if_pos (any_of_get hi' h4), findIdx_first hi' hall h4]
    · conv => whnf
      repeat (refine VC.mk (by first | exact rfl | exact fun h => h | exact fun h => ⟨h, h⟩ | exact trivial | (intro h; rw [h]; rfl) | (intro h; simp [h]; done) | (simp only [okI, Rw.rng] at *; first | omega | (simp_all; done) | (simp_all; omega))) ?_; conv => whnf)
      refine ⟨i + 1, ⟨by omega, by rw [any_take hi' hall]; exact h4⟩, by omega, ⟨⟨_, rfl, rfl⟩, trivial⟩, ?_, rfl⟩
      repeat' (first | exact trivial | exact ⟨_, rfl, rfl⟩ | apply And.intro)
  · conv => whnf
    repeat (refine VC.mk (by first | exact rfl | exact fun h => h | exact fun h => ⟨h, h⟩ | exact trivial | (intro h; rw [h]; rfl) | (intro h; simp [h]; done) | (simp only [okI, Rw.rng] at *; first | omega | (simp_all; done) | (simp_all; omega))) ?_; conv => whnf)
    refine EndZ.int ?_
    have hi' : l.length ≤ i := by simpa using h3
    rw [List.take_of_length_le hi'] at hall
    rw [idxE, hall]; rfl

theorem S.ContainsAbove (l : List Elem) (x : Elem) (d f : Bool) (hl : l.length < 2^40) (hs : smallE l) (hx : x.counts.length < 2^40) :
    SpecZ Tryz.prog F.slices_ContainsFunc_Lapi_Element_api_Element [.row 3 f (.elems l), .fn (F.cover_item_above + 4096) [.int x.value, .row 0 false (.ints x.counts), .bool d]] (.bool (l.any (abvE x))) := by
  refine SpecZ.of Bd.slices_ContainsFunc_Lapi_Element_api_Element (by simp) rfl rfl ?_
  conv => whnf
  repeat (refine VC.mk (by first | exact rfl | exact fun h => h | exact fun h => ⟨h, h⟩ | exact trivial | (intro h; rw [h]; rfl) | (intro h; simp [h]; done) | (simp only [okI, Rw.rng] at *; first | omega | (simp_all; done) | (simp_all; omega))) ?_; conv => whnf)
  refine CallZ.pure (S.IndexAbove l x d f hl hs hx) rfl ?_
  conv => whnf
  repeat (refine VC.mk (by first | exact rfl | exact fun h => h | exact fun h => ⟨h, h⟩ | exact trivial | (intro h; rw [h]; rfl) | (intro h; simp [h]; done) | (simp only [okI, Rw.rng] at *; first | omega | (simp_all; done) | (simp_all; omega))) ?_; conv => whnf)
  refine EndZ.bool ?_
  unfold idxE
  cases h : l.any (abvE x)
  · simp
  · simp

theorem S.cover_tidy_c1 (a b : Elem) (ha : a.counts.length < 2^40) (hb : b.counts.length < 2^40) : SpecZ Tryz.prog F.cover_tidy_c1 [.dat (.elem a), .dat (.elem b)] (.bool (decide (a = b))) := by
  refine SpecZ.of Bd.cover_tidy_c1 (by simp) rfl rfl ?_
  conv => whnf
  repeat (refine VC.mk (by first | exact rfl | exact fun h => h | exact fun h => ⟨h, h⟩ | exact trivial | (intro h; rw [h]; rfl) | (intro h; simp [h]; done) | (simp only [okI, Rw.rng] at *; first | omega | (simp_all; done) | (simp_all; omega))) ?_; conv => whnf)
  refine CallZ.pure (S.cover_Compare a b ha hb) rfl ?_
  conv => whnf
  repeat (refine VC.mk (by first | exact rfl | exact fun h => h | exact fun h => ⟨h, h⟩ | exact trivial | (intro h; rw [h]; rfl) | (intro h; simp [h]; done) | (simp only [okI, Rw.rng] at *; first | omega | (simp_all; done) | (simp_all; omega))) ?_; conv => whnf)
  refine EndZ.bool ?_
  rw [Bool.eq_iff_iff]; simp only [decide_eq_true_eq, beq_iff_eq]
  exact cmpE_eq.symm

theorem EndZ.elem {e : Elem} {n ty : Nat} {h : Hz} (q : h.get n = some (.row ty 0 (.ints e.counts) [])) : EndZ (.dat (.elem e)) (.agg [.int e.value, .own n]) h := ⟨by
  show T.sub (fun _ => True) h.toHp (eElem e) (.agg [.int e.value, .own n])
  simp only [eElem, T.sub, T.subL, and_true]
  refine ⟨trivial, trivial, trivial, ?_, by decide, ty, ?_⟩
  · rw [freeL_iff]; intro t ht; obtain ⟨x, _, rfl⟩ := List.mem_map.1 ht; rfl
  · have := toHp_some q; simpa [OV.toOb, Rw.toL, V.toL] using this⟩

theorem S.r05_Copy (e : Elem) (he : e.counts.length < 2^40) : SpecZ Tryz.prog F.r05_Copy [.dat (.elem e)] (.dat (.elem e)) := by
  refine SpecZ.of Bd.r05_Copy (by simp) rfl rfl ?_
  conv => whnf
  repeat (refine VC.mk (by first | (simp only [capOk, lenRX, Rw.len]; omega) | first | exact rfl | exact fun h => h | exact fun h => ⟨h, h⟩ | exact trivial | (intro h; rw [h]; rfl) | (intro h; simp [h]; done) | (simp only [okI, Rw.rng] at *; first | omega | (simp_all; done) | (simp_all; omega))) ?_; conv => whnf)
  exact EndZ.elem (ty := Y.int) rfl

theorem S.cover_item_copied (e : Elem) (d : Bool) (he : e.counts.length < 2^40) : SpecZ Tryz.prog F.cover_item_copied [.agg [.int e.value, .row 0 false (.ints e.counts), .bool d]] (.dat (.elem e)) := by
  refine SpecZ.of Bd.cover_item_copied (by simp) rfl rfl ?_
  conv => whnf
  repeat (refine VC.mk (by first | (simp only [capOk, lenRX, Rw.len]; omega) | first | exact rfl | exact fun h => h | exact fun h => ⟨h, h⟩ | exact trivial | (intro h; rw [h]; rfl) | (intro h; simp [h]; done) | (simp only [okI, Rw.rng] at *; first | omega | (simp_all; done) | (simp_all; omega))) ?_; conv => whnf)
  exact EndZ.elem (ty := Y.int) rfl
end Go.Proofs.YtpcmibeefiajaaaGreatDoor
namespace Go.Proofs.YtpcmibeefiajaaaGreatDoor
open Go.Ab Go.Proofs
set_option maxRecDepth 100000

/-- Where an element goes: behind the last one that is not greater. -/
def posE (l : List Elem) (e : Elem) : Nat → Nat
  | 0 => 0
  | i + 1 => if 0 < cmpE (l.getD i default) e then posE l e i else i + 1
def foundE (l : List Elem) (e : Elem) : Bool := decide (0 < posE l e l.length) && decide (cmpE (l.getD (posE l e l.length - 1) default) e = 0)
def insE (l : List Elem) (e : Elem) : List Elem := if foundE l e = true then l else l.take (posE l e l.length) ++ e :: l.drop (posE l e l.length)
theorem posE_le {l : List Elem} {e : Elem} : ∀ i, posE l e i ≤ i := by
  intro i
  induction i with
  | zero => exact Nat.le_refl _
  | succ i ih => simp only [posE]; split <;> omega

theorem toNat1 (i : Nat) : ((i : Int) - 1).toNat = i - 1 := by omega
theorem gtP {l : List Elem} {e : Elem} {i : Nat} : (decide ((0 : Int) < i) && decide (0 < cmpE (l.getD ((i : Int) - 1).toNat default) e)) = true ↔ 0 < i ∧ 0 < cmpE (l.getD (i - 1) default) e := by
  rw [toNat1, Bool.and_eq_true, decide_eq_true_eq, decide_eq_true_eq]
  exact ⟨fun h => ⟨by omega, h.2⟩, fun h => ⟨by omega, h.2⟩⟩
theorem eqP {l : List Elem} {e : Elem} {i : Nat} : (decide ((0 : Int) < i) && (cmpE (l.getD ((i : Int) - 1).toNat default) e == 0)) = (decide (0 < i) && decide (cmpE (l.getD (i - 1) default) e = 0)) := by
  rw [toNat1]
  have h1 : decide ((0 : Int) < i) = decide (0 < i) := decide_eq_decide.2 (by omega)
  rw [h1]; rfl

abbrev rowE (l : List Elem) : OV := .row Y.api_Element 3 (.elems l) []
abbrev h1 (l : List Elem) : Hz := [(0, some (rowE l))]

def shf (l : List Elem) (k : Nat) : List Elem := l.take k ++ l.getD k default :: l.drop k
theorem shf_len (l : List Elem) (k : Nat) : (shf l k).length = l.length + 1 := by simp [shf]; omega
theorem shf_at {l : List Elem} {k : Nat} (h : k ≤ l.length) (x : Elem) : (shf l k).set k x = l.take k ++ x :: l.drop k := by
  unfold shf
  rw [List.set_append_right _ _ (by simp; omega)]
  simp [Nat.min_eq_left h]
theorem shf_get {l : List Elem} {k : Nat} (h : k < l.length) : (shf l (k + 1)).getD k default = l.getD k default := by
  unfold shf
  rw [List.getD_eq_getElem?_getD, List.getElem?_append_left (by simp; omega), List.getElem?_take_of_lt (by omega), List.getD_eq_getElem?_getD]
theorem shf_step {l : List Elem} {k : Nat} (h : k < l.length) : (shf l (k + 1)).set (k + 1) ((shf l (k + 1)).getD k default) = shf l k := by
  rw [shf_at (by omega), shf_get h]
  unfold shf
  rw [List.take_add_one, List.append_assoc, drop_getD default h]
  congr 1
  simp [h]
theorem zero_sub (l : List Elem) : SubA (rowE (shf l l.length)).toOb.l (OV.row Y.api_Element 3 (.elems l) [V.agg (ofL [T.int 0, T.nil])]).toOb.l := by
  intro Z h
  have e : (rowE (shf l l.length)).toOb.l = l.map eElem ++ [eElem default] := by
    simp [rowE, OV.toOb, Rw.toL, V.toL, shf]
  rw [e]
  refine subL_append (subL_refl _) ?_
  refine ⟨?_, trivial⟩
  show T.sub Z h (.agg [.int 0, .sl 0 false []]) (.agg [.int 0, .sl 0 true []])
  simp [T.sub, T.subL]

theorem get_h1 {l : List Elem} {n : Nat} (hn : 0 < n) : Hz.get n (h1 l) = none := by
  show (bif Nat.beq 0 n then some (rowE l) else none) = none
  rw [beq_c, if_neg (by omega)]

theorem S.r05_Insert (l : List Elem) (e : Elem) (n : Nat) (hn : 0 < n) (hl : l.length < 2^30) (hs : smallE l) (he : e.counts.length < 2^30) :
    ACalls Tryz.prog F.r05_Insert (V.toL [.own 0, .dat (.elem e)]) (h1 l).toHp n (fun t hp => (foundE l e = true ∧ t = .own 0 ∧ hp = (h1 l).toHp) ∨ (foundE l e = false ∧ t = .own n ∧ hp = Hz.toHp [(n, some (rowE (insE l e)))])) := by
  refine SpecI.of (nx := 1) Bd.r05_Insert (by simp) ?_ rfl rfl ?_
  · cases h : foundE l e
    · exact ⟨_, _, .inr ⟨rfl, rfl, rfl⟩⟩
    · exact ⟨_, _, .inl ⟨rfl, rfl, rfl⟩⟩
  conv => whnf
  repeat (refine VC.mk (by first | exact rfl | exact fun h => h | exact fun h => ⟨h, h⟩ | exact trivial | (intro h; rw [h]; rfl) | (intro h; simp [h]; done) | (simp only [okI, Rw.rng] at *; first | omega | (simp_all; done) | (simp_all; omega))) ?_; conv => whnf)
  refine LoopZ.same [0, 3] (fun i : Nat => [(5, .int i)]) (fun i => i ≤ l.length ∧ posE l e l.length = posE l e i) (fun i => i) l.length rfl (by decide) rfl (fun _ => rfl) ⟨by omega, rfl⟩ ⟨⟨_, rfl, rfl⟩, trivial⟩ ?_
  conv => whnf
  refine ⟨rfl, ?_⟩
  rintro i ⟨hi, hpos⟩
  conv => whnf
  repeat (refine VC.mk (by first | (simp only [okI, Rw.rng, decide_eq_true_eq]; omega) | first | exact rfl | exact fun h => h | exact fun h => ⟨h, h⟩ | exact trivial | (intro h; rw [h]; rfl) | (intro h; simp [h]; done) | (simp only [okI, Rw.rng] at *; first | omega | (simp_all; done) | (simp_all; omega))) ?_; conv => whnf)
  refine CallZ.pureG (fun _ => S.r05_Compare _ _ (by first | exact hs.get _ | (have := hs.get ((i : Int) - 1).toNat; omega)) (by omega)) rfl ?_
  conv => whnf
  repeat (refine VC.mk (by first | exact rfl | exact fun h => h | exact fun h => ⟨h, h⟩ | exact trivial | (intro h; rw [h]; rfl) | (intro h; simp [h]; done) | (simp only [okI, Rw.rng] at *; first | omega | (simp_all; done) | (simp_all; omega))) ?_; conv => whnf)
  refine Fork.mk (fun h3 => ?_) (fun h3 => ?_)
  · rw [gtP] at h3
    obtain ⟨h4, h5⟩ := h3
    conv => whnf
    repeat (refine VC.mk (by first | exact rfl | exact fun h => h | exact fun h => ⟨h, h⟩ | exact trivial | (intro h; rw [h]; rfl) | (intro h; simp [h]; done) | (simp only [okI, Rw.rng] at *; first | omega | (simp_all; done) | (simp_all; omega))) ?_; conv => whnf)
    refine ⟨i - 1, ⟨by omega, ?_⟩, by omega, ⟨⟨_, rfl, ?_⟩, trivial⟩, ?_, rfl⟩
    · rw [hpos]
      obtain ⟨k, rfl⟩ : ∃ k, i = k + 1 := ⟨i - 1, by omega⟩
      simp only [posE, Nat.add_sub_cancel] at h5 ⊢
      rw [if_pos h5]
    · show T.int ((i - 1 : Nat) : Int) = T.int ((i : Int) - 1)
      congr 2; omega
    · repeat' (first | exact trivial | exact ⟨_, rfl, rfl⟩ | apply And.intro)
  · rw [Bool.eq_false_iff, ne_eq, gtP] at h3
    have hp : posE l e l.length = i := by
      rw [hpos]
      cases i with
      | zero => rfl
      | succ k => simp only [posE]; rw [if_neg (fun h => h3 ⟨by omega, by simpa using h⟩)]
    clear hpos h3
    subst hp
    conv => whnf
    repeat (refine VC.mk (by first | (simp only [okI, Rw.rng, decide_eq_true_eq]; omega) | first | exact rfl | exact fun h => h | exact fun h => ⟨h, h⟩ | exact trivial | (intro h; rw [h]; rfl) | (intro h; simp [h]; done) | (simp only [okI, Rw.rng] at *; first | omega | (simp_all; done) | (simp_all; omega))) ?_; conv => whnf)
    refine CallZ.pureG (fun _ => S.r05_Compare _ _ (hs.get _) (by omega)) rfl ?_
    conv => whnf
    repeat (refine VC.mk (by first | exact rfl | exact fun h => h | exact fun h => ⟨h, h⟩ | exact trivial | (intro h; rw [h]; rfl) | (intro h; simp [h]; done) | (simp only [okI, Rw.rng] at *; first | omega | (simp_all; done) | (simp_all; omega))) ?_; conv => whnf)
    rw [eqP]
    refine Fork.mk (fun h3 => ?_) (fun h3 => ?_)
    · conv => whnf
      repeat (refine VC.mk (by first | exact rfl | exact fun h => h | exact fun h => ⟨h, h⟩ | exact trivial | (intro h; rw [h]; rfl) | (intro h; simp [h]; done) | (simp only [okI, Rw.rng] at *; first | omega | (simp_all; done) | (simp_all; omega))) ?_; conv => whnf)
      refine EndI.one (c := 0) (j := 0) (o := rowE l) (t := .own 0) rfl rfl rfl (fun _ => rfl) (.inl rfl) rfl (.eq rfl) (.inl ⟨h3, rfl, rfl⟩)
    · conv => whnf
      repeat (refine VC.mk (by first | (first | (show (l.length + (0 + 1)) * 32 ≤ 140737488355328 ∧ l.length + (0 + 1) ≤ 1152921504606846976; omega) | (show okI ((l.length : Int) + ((0 + 1 : Nat) : Int) - 1); simp only [okI]; omega)) | first | exact rfl | exact fun h => h | exact fun h => ⟨h, h⟩ | exact trivial | (intro h; rw [h]; rfl) | (intro h; simp [h]; done) | (simp only [okI, Rw.rng] at *; first | omega | (simp_all; done) | (simp_all; omega))) ?_; conv => whnf)
      refine LoopZ.objs 3 [3, 5] (fun k : Nat => [(0, .own 2), (6, .int k)]) (fun k => [(1, .box Y.api_Element 3 (.dat (.elem e))), (2, rowE (shf l k))]) (fun k => posE l e l.length ≤ k ∧ k ≤ l.length) (fun k => k) l.length [1, 33] rfl (by decide) (fun _ => rfl) ⟨hi, Nat.le_refl _⟩ ?_ ?_ ?_
      · refine ⟨⟨_, rfl, .eq rfl⟩, ⟨_, rfl, .eq ?_⟩, trivial⟩
        show T.int (l.length : Int) = T.int ((l.length : Int) + ((0 + 1 : Nat) : Int) - 1)
        congr 2; omega
      · refine ⟨⟨rfl, (fun h => by cases h), rfl, rfl, rfl, _, rfl, rfl, rfl, .refl _⟩, ⟨rfl, (fun h => by cases h), rfl, rfl, rfl, _, rfl, rfl, rfl, zero_sub l⟩, trivial⟩
      · conv => whnf
        refine ⟨⟨⟨_, rfl, .eq rfl⟩, ⟨_, rfl, .eq rfl⟩, trivial⟩, rfl, ?_⟩
        rintro k ⟨hk1, hk2⟩
        conv => whnf
        repeat (refine VC.mk (by first | exact rfl | exact fun h => h | exact fun h => ⟨h, h⟩ | exact trivial | (intro h; rw [h]; rfl) | (intro h; simp [h]; done) | (simp only [okI, Rw.rng] at *; first | omega | (simp_all; done) | (simp_all; omega))) ?_; conv => whnf)
        refine Fork.mk (fun h4 => ?_) (fun h4 => ?_)
        · have h5 : posE l e l.length < k := by simpa using h4
          obtain ⟨k, rfl⟩ : ∃ j, k = j + 1 := ⟨k - 1, by omega⟩
          have e1 : ((((k + 1 : Nat) : Int)) - 1).toNat = k := by omega
          have e2 : (((k + 1 : Nat) : Int)).toNat = k + 1 := rfl
          conv => whnf
          repeat (refine VC.mk (by first | (simp only [Rw.rng, shf_len, okI]; omega) | first | exact rfl | exact fun h => h | exact fun h => ⟨h, h⟩ | exact trivial | (intro h; rw [h]; rfl) | (intro h; simp [h]; done) | (simp only [okI, Rw.rng] at *; first | omega | (simp_all; done) | (simp_all; omega))) ?_; conv => whnf)
          refine ⟨k, [1, 2], ⟨by omega, by omega⟩, by omega, ⟨⟨_, rfl, .eq rfl⟩, ⟨_, rfl, .eq ?_⟩, trivial⟩, ⟨⟨_, rfl, .eq rfl⟩, ⟨_, rfl, .eq rfl⟩, trivial⟩, ⟨rfl, (fun h => by cases h), rfl, rfl, rfl, _, rfl, rfl, rfl, .refl _⟩, ⟨rfl, (fun h => by cases h), rfl, rfl, rfl, _, rfl, rfl, rfl, ?_⟩, trivial⟩
          · show T.int (k : Int) = T.int (((k + 1 : Nat) : Int) - 1)
            congr 2; omega
          · rw [e1, e2, shf_step (by omega)]; exact .refl _
        · have hk : k = posE l e l.length := by
            have : ¬ posE l e l.length < k := by simpa using h4
            omega
          clear h4
          conv => whnf
          repeat (refine VC.mk (by first | exact rfl | exact fun h => h | exact fun h => ⟨h, h⟩ | exact trivial | (intro h; rw [h]; rfl) | (intro h; simp [h]; done) | (simp only [okI, Rw.rng] at *; first | omega | (simp_all; done) | (simp_all; omega))) ?_; conv => whnf)
          refine CallZ.pure (S.r05_Copy e (by omega)) rfl ?_
          conv => whnf
          repeat (refine VC.mk (by first | (simp only [Rw.rng, shf_len, okI]; omega) | first | exact rfl | exact fun h => h | exact fun h => ⟨h, h⟩ | exact trivial | (intro h; rw [h]; rfl) | (intro h; simp [h]; done) | (simp only [okI, Rw.rng] at *; first | omega | (simp_all; done) | (simp_all; omega))) ?_; conv => whnf)
          refine EndI.one (c := n) (j := 2) (o := rowE ((shf l k).set (posE l e l.length : Int).toNat e)) (t := .own n) rfl rfl rfl ?_ (.inr rfl) rfl (.eq rfl) (.inr ⟨h3, rfl, ?_⟩)
          · rw [get_h1 hn]; intro h; cases h
          · have : (shf l k).set (posE l e l.length : Int).toNat e = insE l e := by
              rw [insE, if_neg (by rw [show foundE l e = false from h3]; simp)]
              rw [hk]; exact shf_at (by omega) e
            rw [this]
end Go.Proofs.YtpcmibeefiajaaaGreatDoor
namespace Go.Proofs.YtpcmibeefiajaaaGreatDoor
open Go.Ab Go.Proofs
set_option maxRecDepth 100000

/-- Rows are lent to a function that reads them. -/
theorem CallZ.lend {P : Program} {dr : Bool} {f : FuncId} {args args' : List V} {res : V} {h : Hz} {n : Nat} {K : V → Hz → Prop} (S : SpecZ P f args' res) (hs : T.subL (fun _ => True) h.toHp (V.toL args') (V.toL args)) (hh : res.toT.hard = true) (hr : res.free = true) (hK : K res h) : CallZ P dr none f args h n K :=
  ⟨AFn.lend S hs hh (fun _ e => by cases e) ⟨res, h, rfl, rfl, fun _ => ⟨rfl, V.free_toT res hr⟩, hK⟩⟩
theorem elems_free (l : List Elem) : T.freeL (l.map eElem) = true := by
  rw [freeL_iff]; intro t ht; obtain ⟨x, _, rfl⟩ := List.mem_map.1 ht; rfl
/-- An owned row of elements, lent. -/
theorem lendE {h : Hz} {j : Nat} {l : List Elem} {Z : Nat → Prop} (hz : Z j) (q : h.get j = some (rowE l)) : T.sub Z h.toHp (V.row 3 false (.elems l)).toT (V.own j).toT := by
  show T.sub Z h.toHp (.sl 3 false (l.map eElem)) (.own j)
  simp only [T.sub]
  refine ⟨trivial, hz, elems_free l, by decide, Y.api_Element, ?_⟩
  have := toHp_some q; simpa [OV.toOb, Rw.toL, V.toL] using this
theorem EndZ.ownE {h : Hz} {j : Nat} {l : List Elem} (q : h.get j = some (rowE l)) : EndZ (.row 3 false (.elems l)) (.own j) h := ⟨lendE trivial q⟩
theorem SubA.of_eq {a b : List T} (h : a = b) : SubA a b := by subst h; exact .refl _

def allE (l : List Elem) : List Elem := l.foldl insE []
def keepE (out : List Elem) (x : Elem) : List Elem := if (out.any fun b => leqE b x) = true then out else out ++ [x]
def refMin (l : List Elem) : List Elem := (allE l).foldl keepE []

theorem posE_len {l : List Elem} {e : Elem} : (insE l e).length ≤ l.length + 1 := by
  unfold insE; split
  · omega
  · simp; have := posE_le (l := l) (e := e) l.length; omega
theorem insE_mem {l : List Elem} {e x : Elem} (h : x ∈ insE l e) : x = e ∨ x ∈ l := by
  unfold insE at h; split at h
  · exact .inr h
  · simp only [List.mem_append, List.mem_cons] at h
    rcases h with h | h | h
    · exact .inr (List.mem_of_mem_take h)
    · exact .inl h
    · exact .inr (List.mem_of_mem_drop h)
theorem foldl_take {α β : Type} (f : β → α → β) (b : β) {l : List α} {i : Nat} (d : α) (h : i < l.length) : (l.take (i + 1)).foldl f b = f ((l.take i).foldl f b) (l.getD i d) := by
  rw [List.take_add_one, List.foldl_append]; simp [h]
theorem allE_len : ∀ (l acc : List Elem), (l.foldl insE acc).length ≤ acc.length + l.length := by
  intro l
  induction l with
  | nil => intro acc; simp
  | cons x l ih => intro acc; simp only [List.foldl_cons, List.length_cons]; have := ih (insE acc x); have := posE_len (l := acc) (e := x); omega
theorem allE_mem : ∀ (l acc : List Elem) (x : Elem), x ∈ l.foldl insE acc → x ∈ acc ∨ x ∈ l := by
  intro l
  induction l with
  | nil => intro acc x h; exact .inl h
  | cons y l ih =>
    intro acc x h
    simp only [List.foldl_cons] at h
    rcases ih _ _ h with h | h
    · rcases insE_mem h with h | h
      · exact .inr (by simp [h])
      · exact .inl h
    · exact .inr (by simp [h])
theorem keepE_len {l : List Elem} {e : Elem} : (keepE l e).length ≤ l.length + 1 := by
  unfold keepE; split
  · omega
  · simp
theorem keep_len : ∀ (l acc : List Elem), (l.foldl keepE acc).length ≤ acc.length + l.length := by
  intro l
  induction l with
  | nil => intro acc; simp
  | cons x l ih => intro acc; simp only [List.foldl_cons, List.length_cons]; have := ih (keepE acc x); have := keepE_len (l := acc) (e := x); omega
theorem keep_mem : ∀ (l acc : List Elem) (x : Elem), x ∈ l.foldl keepE acc → x ∈ acc ∨ x ∈ l := by
  intro l
  induction l with
  | nil => intro acc x h; exact .inl h
  | cons y l ih =>
    intro acc x h
    simp only [List.foldl_cons] at h
    rcases ih _ _ h with h | h
    · unfold keepE at h; split at h
      · exact .inl h
      · simp only [List.mem_append, List.mem_singleton] at h
        rcases h with h | h
        · exact .inl h
        · exact .inr (by simp [h])
    · exact .inr (by simp [h])
theorem small_all {l : List Elem} (h : smallE l) (i : Nat) : smallE ((l.take i).foldl insE []) := fun x hx => by
  rcases allE_mem _ _ _ hx with h' | h'
  · cases h'
  · exact h x (List.mem_of_mem_take h')
theorem small_keep {l : List Elem} (h : smallE l) (i : Nat) : smallE ((l.take i).foldl keepE []) := fun x hx => by
  rcases keep_mem _ _ _ hx with h' | h'
  · cases h'
  · exact h x (List.mem_of_mem_take h')

def smallF (l : List Elem) : Prop := ∀ e ∈ l, e.counts.length < 2^30
theorem smallF.e {l : List Elem} (h : smallF l) : smallE l := fun e he => by have := h e he; omega
theorem smallF.get {l : List Elem} (h : smallF l) (i : Nat) : (l.getD i default).counts.length < 2^30 := by
  rw [List.getD_eq_getElem?_getD]
  cases e : l[i]? with
  | none => show ([] : List Int).length < 2^30; decide
  | some x => exact h x (List.mem_of_getElem? e)

theorem S.r05_Minimize (l : List Elem) (f : Bool) (hl : l.length < 2^29) (hs : smallF l) : SpecZ Tryz.prog F.r05_Minimize [.row 3 f (.elems l)] (.row 3 false (.elems (refMin l))) := by
  refine SpecZ.of Bd.r05_Minimize (by simp) rfl rfl ?_
  conv => whnf
  repeat (refine VC.mk (by first | exact rfl | exact fun h => h | exact fun h => ⟨h, h⟩ | exact trivial | (intro h; rw [h]; rfl) | (intro h; simp [h]; done) | (simp only [okI, Rw.rng] at *; first | omega | (simp_all; done) | (simp_all; omega))) ?_; conv => whnf)
  refine LoopZ.nil 3 Y.api_Element 3 (by rfl) rfl rfl rfl ?_
  refine LoopZ.objs 1 [0, 4] (fun i : Nat => [(5, .int i), (3, .own 0)]) (fun i => [(0, rowE ((l.take i).foldl insE []))]) (fun i => i ≤ l.length) (fun i => l.length - i) 0 [4] rfl (by decide) (fun _ => rfl) (Nat.zero_le _) ?_ ?_ ?_
  · exact ⟨⟨_, rfl, .eq rfl⟩, ⟨_, rfl, .eq rfl⟩, trivial⟩
  · exact ⟨⟨rfl, (fun h => by cases h), rfl, rfl, rfl, _, rfl, rfl, rfl, SubA.of_eq rfl⟩, trivial⟩
  conv => whnf
  refine ⟨⟨⟨_, rfl, .eq rfl⟩, ⟨_, rfl, .eq rfl⟩, trivial⟩, rfl, ?_⟩
  rintro i hi
  have hal : ((l.take i).foldl insE []).length ≤ i := by
    have := allE_len (l.take i) []
    simp at this; omega
  conv => whnf
  repeat (refine VC.mk (by first | exact rfl | exact fun h => h | exact fun h => ⟨h, h⟩ | exact trivial | (intro h; rw [h]; rfl) | (intro h; simp [h]; done) | (simp only [okI, Rw.rng] at *; first | omega | (simp_all; done) | (simp_all; omega))) ?_; conv => whnf)
  refine Fork.mk (fun h3 => ?_) (fun h3 => ?_)
  · have hi' : i < l.length := by simpa using h3
    conv => whnf
    repeat (refine VC.mk (by first | exact rfl | exact fun h => h | exact fun h => ⟨h, h⟩ | exact trivial | (intro h; rw [h]; rfl) | (intro h; simp [h]; done) | (simp only [okI, Rw.rng] at *; first | omega | (simp_all; done) | (simp_all; omega))) ?_; conv => whnf)
    refine CallZ.heap (S.r05_Insert _ _ _ (by decide) (by omega) (small_all hs.e i) (hs.get i)) ?_
    have hstep := foldl_take insE [] (l := l) default hi'
    rintro t hp (⟨hf, rfl, rfl⟩ | ⟨hf, rfl, rfl⟩)
    · refine ⟨.own 0, h1 _, rfl, rfl, ?_⟩
      conv => whnf
      repeat (refine VC.mk (by first | exact rfl | exact fun h => h | exact fun h => ⟨h, h⟩ | exact trivial | (intro h; rw [h]; rfl) | (intro h; simp [h]; done) | (simp only [okI, Rw.rng] at *; first | omega | (simp_all; done) | (simp_all; omega))) ?_; conv => whnf)
      refine ⟨i + 1, [0], by omega, by omega, ⟨⟨_, rfl, .eq rfl⟩, ⟨_, rfl, .eq rfl⟩, trivial⟩, ⟨⟨_, rfl, .eq rfl⟩, ⟨_, rfl, .eq rfl⟩, trivial⟩, ⟨rfl, (fun h => by cases h), rfl, rfl, rfl, _, rfl, rfl, rfl, ?_⟩, trivial⟩
      rw [Int.toNat_natCast] at hf
      rw [hstep, insE, if_pos hf]; exact .refl _
    · refine ⟨.own _, [(_, some (rowE _))], rfl, rfl, ?_⟩
      conv => whnf
      repeat (refine VC.mk (by first | exact rfl | exact fun h => h | exact fun h => ⟨h, h⟩ | exact trivial | (intro h; rw [h]; rfl) | (intro h; simp [h]; done) | (simp only [okI, Rw.rng] at *; first | omega | (simp_all; done) | (simp_all; omega))) ?_; conv => whnf)
      refine ⟨i + 1, [10], by omega, by omega, ⟨⟨_, rfl, .eq rfl⟩, ⟨_, rfl, .eq rfl⟩, trivial⟩, ⟨⟨_, rfl, .eq rfl⟩, ⟨_, rfl, .eq rfl⟩, trivial⟩, ⟨rfl, (fun h => by cases h), rfl, rfl, rfl, _, rfl, rfl, rfl, ?_⟩, trivial⟩
      rw [hstep]; exact .refl _
  · have hi' : l.length ≤ i := by simpa using h3
    have hall : (l.take i).foldl insE [] = allE l := by rw [List.take_of_length_le hi']; rfl
    have hsl : smallF (allE l) := fun x hx => by
      rcases allE_mem _ _ _ hx with h' | h'
      · cases h'
      · exact hs x h'
    rw [hall]
    rw [hall] at hal
    generalize hA : allE l = A at hal hsl ⊢
    have hrm : refMin l = A.foldl keepE [] := by rw [refMin, hA]
    rw [hrm]
    clear hall hA hrm h3
    conv => whnf
    repeat (refine VC.mk (by first | exact rfl | exact fun h => h | exact fun h => ⟨h, h⟩ | exact trivial | (intro h; rw [h]; rfl) | (intro h; simp [h]; done) | (simp only [okI, Rw.rng] at *; first | omega | (simp_all; done) | (simp_all; omega))) ?_; conv => whnf)
    refine LoopZ.nil 4 Y.api_Element 3 (by rfl) rfl rfl rfl ?_
    refine LoopZ.objs 2 [] (fun i : Nat => [(6, .int i), (3, .own 0), (4, .own 1)]) (fun i => [(0, rowE A), (1, rowE ((A.take i).foldl keepE []))]) (fun i => i ≤ A.length) (fun i => A.length - i) 0 [0, 6] rfl (by decide) (fun _ => rfl) (Nat.zero_le _) ?_ ?_ ?_
    · exact ⟨⟨_, rfl, .eq rfl⟩, ⟨_, rfl, .eq rfl⟩, ⟨_, rfl, .eq rfl⟩, trivial⟩
    · exact ⟨⟨rfl, (fun h => by cases h), rfl, rfl, rfl, _, rfl, rfl, rfl, .refl _⟩, ⟨rfl, (fun h => by cases h), rfl, rfl, rfl, _, rfl, rfl, rfl, SubA.of_eq rfl⟩, trivial⟩
    conv => whnf
    refine ⟨trivial, rfl, ?_⟩
    rintro j hj
    have hkl : ((A.take j).foldl keepE []).length ≤ j := by
      have := keep_len (A.take j) []
      simp at this; omega
    conv => whnf
    repeat (refine VC.mk (by first | exact rfl | exact fun h => h | exact fun h => ⟨h, h⟩ | exact trivial | (intro h; rw [h]; rfl) | (intro h; simp [h]; done) | (simp only [okI, Rw.rng] at *; first | omega | (simp_all; done) | (simp_all; omega))) ?_; conv => whnf)
    refine Fork.mk (fun h3 => ?_) (fun h3 => ?_)
    · have hj' : j < A.length := by simpa using h3
      have hstep := foldl_take keepE [] (l := A) default hj'
      conv => whnf
      repeat (refine VC.mk (by first | exact rfl | exact fun h => h | exact fun h => ⟨h, h⟩ | exact trivial | (intro h; rw [h]; rfl) | (intro h; simp [h]; done) | (simp only [okI, Rw.rng] at *; first | omega | (simp_all; done) | (simp_all; omega))) ?_; conv => whnf)
      refine CallZ.lend (S.r05_Contains _ (A.getD j default) false (by omega) (small_keep hsl.e j) (hsl.e.get j)) ⟨lendE trivial rfl, sub_refl _, trivial⟩ rfl rfl ?_
      conv => whnf
      repeat (refine VC.mk (by first | exact rfl | exact fun h => h | exact fun h => ⟨h, h⟩ | exact trivial | (intro h; rw [h]; rfl) | (intro h; simp [h]; done) | (simp only [okI, Rw.rng] at *; first | omega | (simp_all; done) | (simp_all; omega))) ?_; conv => whnf)
      refine Fork.mk (fun h4 => ?_) (fun h4 => ?_)
      · conv => whnf
        repeat (refine VC.mk (by first | (show (((A.take j).foldl keepE []).length + (0 + 1)) * 32 ≤ 140737488355328 ∧ ((A.take j).foldl keepE []).length + (0 + 1) ≤ 1152921504606846976; omega) | first | exact rfl | exact fun h => h | exact fun h => ⟨h, h⟩ | exact trivial | (intro h; rw [h]; rfl) | (intro h; simp [h]; done) | (simp only [okI, Rw.rng] at *; first | omega | (simp_all; done) | (simp_all; omega))) ?_; conv => whnf)
        refine ⟨j + 1, [0, 19], by omega, by omega, ⟨⟨_, rfl, .eq rfl⟩, ⟨_, rfl, .eq rfl⟩, ⟨_, rfl, .eq rfl⟩, trivial⟩, trivial, ⟨rfl, (fun h => by cases h), rfl, rfl, rfl, _, rfl, rfl, rfl, .refl _⟩, ⟨rfl, (fun h => by cases h), rfl, rfl, rfl, _, rfl, rfl, rfl, SubA.of_eq ?_⟩, trivial⟩
        rw [hstep, keepE, if_neg (by simpa using h4)]
        show List.map eElem _ ++ [] = List.map eElem _ ++ [eElem _]
        simp
      · conv => whnf
        repeat (refine VC.mk (by first | exact rfl | exact fun h => h | exact fun h => ⟨h, h⟩ | exact trivial | (intro h; rw [h]; rfl) | (intro h; simp [h]; done) | (simp only [okI, Rw.rng] at *; first | omega | (simp_all; done) | (simp_all; omega))) ?_; conv => whnf)
        refine ⟨j + 1, [0, 1], by omega, by omega, ⟨⟨_, rfl, .eq rfl⟩, ⟨_, rfl, .eq rfl⟩, ⟨_, rfl, .eq rfl⟩, trivial⟩, trivial, ⟨rfl, (fun h => by cases h), rfl, rfl, rfl, _, rfl, rfl, rfl, .refl _⟩, ⟨rfl, (fun h => by cases h), rfl, rfl, rfl, _, rfl, rfl, rfl, SubA.of_eq ?_⟩, trivial⟩
        have h5 : ((A.take j).foldl keepE []).any (fun b => leqE b (A.getD j default)) = true := by simpa using h4
        rw [hstep, keepE, if_pos h5]
    · conv => whnf
      repeat (refine VC.mk (by first | exact rfl | exact fun h => h | exact fun h => ⟨h, h⟩ | exact trivial | (intro h; rw [h]; rfl) | (intro h; simp [h]; done) | (simp only [okI, Rw.rng] at *; first | omega | (simp_all; done) | (simp_all; omega))) ?_; conv => whnf)
      have hj' : A.length ≤ j := by simpa using h3
      have hA : A.take j = A := List.take_of_length_le hj'
      rw [hA]
      exact EndZ.ownE rfl
end Go.Proofs.YtpcmibeefiajaaaGreatDoor
