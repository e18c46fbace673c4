/-
  A part of the proof. No condition.
-/
import Derived.Test.YtgokbcjkbdabnaaGreatDoorSb
import Derived.Test.YtgokbcjkbdabnaaGreatDoorLg
import Derived.Test.YtgokbcjkbdabnaaGreatDoorLe
namespace Go.Proofs.YtgokbcjkbdabnaaGreatDoor
open Go.Ab Go.Proofs
set_option maxRecDepth 100000

def leqL : List Int → List Int → Bool
  | [], [] => true
  | x :: a, y :: b => decide (x ≤ y) && leqL a b
  | _, _ => false
def leqE (a b : Elem) : Bool := (a.value == b.value) && leqL a.counts b.counts

theorem leqL_iff : ∀ {a b : List Int}, leqL a b = true ↔ a.length = b.length ∧ ∀ j, j < a.length → a.getD j 0 ≤ b.getD j 0 := by
  intro a
  induction a with
  | nil => intro b; cases b <;> simp [leqL]
  | cons x a ih =>
    intro b
    cases b with
    | nil => simp [leqL]
    | cons y b =>
      simp only [leqL, Bool.and_eq_true, decide_eq_true_eq, ih, List.length_cons]
      constructor
      · rintro ⟨h1, h2, h3⟩
        refine ⟨by omega, fun j hj => ?_⟩
        cases j with
        | zero => simpa using h1
        | succ j => simpa using h3 j (by omega)
      · rintro ⟨h1, h2⟩
        exact ⟨by simpa using h2 0 (by omega), by omega, fun j hj => by simpa using h2 (j + 1) (by omega)⟩

theorem S.cover_Leq (a b : Elem) (ha : a.counts.length < 2^40) (hb : b.counts.length < 2^40) : SpecZ Tryz.prog F.cover_Leq [.dat (.elem a), .dat (.elem b)] (.bool (leqE a b)) := by
  refine SpecZ.of Bd.cover_Leq (by simp) rfl rfl ?_
  conv => whnf
  refine VC.mk (by exact fun h => h) ?_
  conv => whnf
  refine VC.mk (by exact fun h => h) ?_
  conv => whnf
  refine VC.mk (by exact fun h => h) ?_
  conv => whnf
  refine VC.mk (by exact fun h => h) ?_
  conv => whnf
  refine VC.mk (by exact fun h => ⟨h, h⟩) ?_
  conv => whnf
  refine VC.mk (by intro h; rw [h]; rfl) ?_
  conv => whnf
  refine Fork.mk (fun h1 => ?_) (fun h1 => ?_)
  · conv => whnf
    refine EndZ.bool ?_
    by_cases hv : a.value = b.value
    · have : leqL a.counts b.counts = false := by
        rw [Bool.eq_false_iff]; intro h; rw [leqL_iff] at h; simp [hv, h.1] at h1
      simp [leqE, this]
    · simp [leqE, hv]
  · have h2 : a.value = b.value ∧ a.counts.length = b.counts.length := by
      by_cases hv : a.value = b.value
      · simp [hv] at h1; exact ⟨hv, by omega⟩
      · simp [hv] at h1
    conv => whnf
    refine LoopZ.same [3, 22, 23] (fun i : Nat => [(24, .int i)]) (fun i => i ≤ a.counts.length ∧ ∀ j, j < i → a.counts.getD j 0 ≤ b.counts.getD j 0) (fun i => a.counts.length - i) 0 rfl (by decide) rfl (fun _ => rfl) ⟨by omega, fun j hj => by omega⟩ ⟨⟨_, rfl, rfl⟩, trivial⟩ ?_
    conv => whnf
    refine ⟨rfl, ?_⟩
    rintro i ⟨hi, hall⟩
    conv => whnf
    refine Fork.mk (fun h3 => ?_) (fun h3 => ?_)
    · have hi' : i < a.counts.length := by simpa using h3
      conv => whnf
      refine VC.mk (by simp only [okI, Rw.rng] at *; first | omega | (simp_all; done) | (simp_all; omega)) ?_
      conv => whnf
      refine VC.mk (by simp only [okI, Rw.rng] at *; first | omega | (simp_all; done) | (simp_all; omega)) ?_
      conv => whnf
      refine Fork.mk (fun h4 => ?_) (fun h4 => ?_)
      · conv => whnf
        refine EndZ.bool ?_
        have : leqL a.counts b.counts = false := by
          rw [Bool.eq_false_iff]; intro h; rw [leqL_iff] at h; have := h.2 i hi'; simp only [Int.toNat_natCast, decide_eq_true_eq] at h4; omega
        simp [leqE, this]
      · conv => whnf
        refine VC.mk (by simp only [okI, Rw.rng] at *; first | omega | (simp_all; done) | (simp_all; omega)) ?_
        conv => whnf
        refine ⟨i + 1, ⟨by omega, fun j hj => ?_⟩, by omega, ⟨⟨_, rfl, rfl⟩, trivial⟩, ?_, rfl⟩
        · by_cases e : j = i
          · subst e; simp only [Int.toNat_natCast, decide_eq_false_iff_not] at h4; omega
          · exact hall j (by omega)
        · repeat' (first | exact trivial | exact ⟨_, rfl, rfl⟩ | apply And.intro)
    · conv => whnf
      refine EndZ.bool ?_
      have hi' : a.counts.length ≤ i := by simpa using h3
      simp only [leqE, Bool.and_eq_true, beq_iff_eq]
      rw [Bool.eq_iff_iff]; simp only [Bool.and_eq_true, beq_iff_eq, iff_true]
      exact ⟨h2.1, leqL_iff.2 ⟨h2.2, fun j hj => hall j (by omega)⟩⟩
end Go.Proofs.YtgokbcjkbdabnaaGreatDoor
namespace Go.Proofs.YtgokbcjkbdabnaaGreatDoor
open Go.Ab Go.Proofs
set_option maxRecDepth 100000

/-! ### orders -/
def cmpI (a b : Int) : Int := if a < b then -1 else if b < a then 1 else 0
def cmpL : List Int → List Int → Int
  | [], [] => 0
  | [], _ :: _ => -1
  | _ :: _, [] => 1
  | x :: a, y :: b => if x < y then -1 else if y < x then 1 else cmpL a b
def cmpE (a b : Elem) : Int := if a.value < b.value then -1 else if b.value < a.value then 1 else cmpL a.counts b.counts

theorem drop_getD {α : Type} {l : List α} {i : Nat} (d : α) (h : i < l.length) : l.drop i = l.getD i d :: l.drop (i + 1) := by
  rw [List.drop_eq_getElem_cons h]; simp [h]
theorem cmpL_step {a b : List Int} {i : Nat} (ha : i < a.length) (hb : i < b.length) :
    cmpL (a.drop i) (b.drop i) = if a.getD i 0 < b.getD i 0 then -1 else if b.getD i 0 < a.getD i 0 then 1 else cmpL (a.drop (i + 1)) (b.drop (i + 1)) := by
  rw [drop_getD 0 ha, drop_getD 0 hb]; rfl
theorem cmpL_end {a b : List Int} {i : Nat} (hi : a.length ≤ i ∨ b.length ≤ i) (h1 : i ≤ a.length) (h2 : i ≤ b.length) :
    cmpL (a.drop i) (b.drop i) = if a.length < b.length then -1 else if b.length < a.length then 1 else 0 := by
  by_cases ha : a.length ≤ i
  · have e : a.drop i = [] := List.drop_eq_nil_of_le ha
    rw [e]
    by_cases hb : b.length ≤ i
    · rw [List.drop_eq_nil_of_le hb, if_neg (by omega), if_neg (by omega)]; rfl
    · rw [drop_getD 0 (by omega), if_pos (by omega)]; rfl
  · have hb : b.length ≤ i := by omega
    rw [List.drop_eq_nil_of_le hb, drop_getD 0 (by omega), if_neg (by omega), if_pos (by omega)]; rfl

theorem S.cmp_isNaN_int (a : Int) : SpecZ Tryz.prog F.cmp_isNaN_int [.int a] (.bool false) := by
  refine SpecZ.of Bd.cmp_isNaN_int (by simp) rfl rfl ?_
  conv => whnf
  refine EndZ.bool ?_
  simp

theorem S.cmp_Compare_int (a b : Int) : SpecZ Tryz.prog F.cmp_Compare_int [.int a, .int b] (.int (cmpI a b)) := by
  refine SpecZ.of Bd.cmp_Compare_int (by simp) rfl rfl ?_
  conv => whnf
  refine CallZ.pure (S.cmp_isNaN_int a) rfl ?_
  conv => whnf
  refine CallZ.pure (S.cmp_isNaN_int b) rfl ?_
  conv => whnf
  refine Fork.mk (fun h1 => by cases h1) (fun _ => ?_)
  conv => whnf
  refine Fork.mk (fun h1 => by cases h1) (fun _ => ?_)
  conv => whnf
  refine Fork.mk (fun h1 => ?_) (fun h1 => ?_)
  · conv => whnf
    exact EndZ.int (by simp only [decide_eq_true_eq] at h1; simp [cmpI, h1])
  · conv => whnf
    simp only [decide_eq_false_iff_not] at h1
    refine Fork.mk (fun h2 => ?_) (fun h2 => ?_)
    · conv => whnf
      exact EndZ.int (by simp only [decide_eq_true_eq] at h2; simp [cmpI, h1, h2])
    · conv => whnf
      exact EndZ.int (by simp only [decide_eq_false_iff_not] at h2; simp [cmpI, h1, h2])

theorem S.slices_Compare (a b : List Int) (ha : a.length < 2^40) (hb : b.length < 2^40) : SpecZ Tryz.prog F.slices_Compare_Lint_int [.row 0 false (.ints a), .row 0 false (.ints b)] (.int (cmpL a b)) := by
  refine SpecZ.of Bd.slices_Compare_Lint_int (by simp) rfl rfl ?_
  conv => whnf
  refine LoopZ.same [0, 1, 9, 10] (fun i : Nat => [(11, .int i)]) (fun i => i ≤ a.length ∧ i ≤ b.length ∧ cmpL a b = cmpL (a.drop i) (b.drop i)) (fun i => a.length - i) 0 rfl (by decide) rfl (fun _ => rfl) ⟨by omega, by omega, rfl⟩ ⟨⟨_, rfl, rfl⟩, trivial⟩ ?_
  conv => whnf
  refine ⟨rfl, ?_⟩
  rintro i ⟨hi, hj, he⟩
  conv => whnf
  refine Fork.mk (fun h3 => ?_) (fun h3 => ?_)
  · have hi' : i < a.length := by simpa using h3
    conv => whnf
    refine VC.mk (by simp only [okI, Rw.rng] at *; first | omega | (simp_all; done) | (simp_all; omega)) ?_
    conv => whnf
    refine Fork.mk (fun h4 => ?_) (fun h4 => ?_)
    · conv => whnf
      have hb' : b.length ≤ i := by simpa using h4
      refine EndZ.int ?_
      rw [he, cmpL_end (.inr hb') hi hj, if_neg (by omega), if_pos (by omega)]
    · have hb' : i < b.length := by simpa using h4
      conv => whnf
      refine VC.mk (by simp only [okI, Rw.rng] at *; first | omega | (simp_all; done) | (simp_all; omega)) ?_
      conv => whnf
      refine CallZ.pure (S.cmp_Compare_int _ _) rfl ?_
      rw [cmpL_step hi' hb'] at he
      conv => whnf
      simp only [Int.toNat_natCast]
      refine Fork.mk (fun h5 => ?_) (fun h5 => ?_)
      · conv => whnf
        refine EndZ.int ?_
        rw [he]
        simp only [bne_iff_ne, ne_eq, Int.toNat_natCast] at h5 ⊢
        generalize a.getD i 0 = x at h5 ⊢
        generalize b.getD i 0 = y at h5 ⊢
        unfold cmpI at h5 ⊢
        by_cases h6 : x < y
        · simp [h6]
        · by_cases h7 : y < x
          · simp [h6, h7]
          · simp [h6, h7] at h5
      · conv => whnf
        refine VC.mk (by simp only [okI, Rw.rng] at *; first | omega | (simp_all; done) | (simp_all; omega)) ?_
        conv => whnf
        have h6 : ¬ a.getD i 0 < b.getD i 0 ∧ ¬ b.getD i 0 < a.getD i 0 := by
          simp only [bne_eq_false_iff_eq, Int.toNat_natCast] at h5
          generalize a.getD i 0 = x at h5 ⊢
          generalize b.getD i 0 = y at h5 ⊢
          unfold cmpI at h5
          by_cases h6 : x < y
          · simp [h6] at h5
          · by_cases h7 : y < x
            · simp [h6, h7] at h5
            · exact ⟨h6, h7⟩
        refine ⟨i + 1, ⟨by omega, by omega, by rw [he, if_neg h6.1, if_neg h6.2]⟩, by omega, ⟨⟨_, rfl, rfl⟩, trivial⟩, ?_, rfl⟩
        repeat' (first | exact trivial | exact ⟨_, rfl, rfl⟩ | apply And.intro)
  · have hi' : a.length ≤ i := by simpa using h3
    conv => whnf
    refine Fork.mk (fun h4 => ?_) (fun h4 => ?_)
    · conv => whnf
      refine EndZ.int ?_
      rw [he, cmpL_end (.inl hi') hi hj, if_pos (by simpa using h4)]
    · conv => whnf
      refine EndZ.int ?_
      have : b.length ≤ a.length := by simpa using h4
      rw [he, cmpL_end (.inl hi') hi hj, if_neg (by omega), if_neg (by omega)]

theorem S.cmp_Or_int (x y : Int) (f : Bool) : SpecZ Tryz.prog F.cmp_Or_int [.row 0 f (.ints [x, y])] (.int (if x ≠ 0 then x else y)) := by
  refine SpecZ.of Bd.cmp_Or_int (by simp) rfl rfl ?_
  conv => whnf
  refine LoopZ.same [3, 6, 7] (fun i : Nat => [(8, .int i)]) (fun i => i ≤ 2 ∧ (0 < i → x = 0) ∧ (1 < i → y = 0)) (fun i => 2 - i) 0 rfl (by decide) rfl (fun _ => rfl) ⟨by omega, by omega, by omega⟩ ⟨⟨_, rfl, rfl⟩, trivial⟩ ?_
  conv => whnf
  refine ⟨rfl, ?_⟩
  rintro i ⟨hi, h0, h1⟩
  conv => whnf
  refine Fork.mk (fun h3 => ?_) (fun h3 => ?_)
  · have hi' : i < 2 := by simp at h3; omega
    conv => whnf
    refine VC.mk (by simp only [Rw.rng, List.length_cons, List.length_nil]; omega) ?_
    conv => whnf
    refine Fork.mk (fun h4 => ?_) (fun h4 => ?_)
    · conv => whnf
      refine EndZ.int ?_
      simp only [Int.toNat_natCast, bne_iff_ne, ne_eq] at h4 ⊢
      by_cases e : i = 0
      · subst e; simp at h4 ⊢; simp [h4]
      · have : i = 1 := by omega
        subst this; simp at h4 ⊢; simp [h0]
    · conv => whnf
      refine VC.mk (by simp only [okI, Rw.rng] at *; first | omega | (simp_all; done) | (simp_all; omega)) ?_
      conv => whnf
      refine ⟨i + 1, ⟨by omega, fun _ => ?_, fun hlt => ?_⟩, by omega, ⟨⟨_, rfl, rfl⟩, trivial⟩, ?_, rfl⟩
      · by_cases e : i = 0
        · subst e; simpa using h4
        · exact h0 (by omega)
      · have : i = 1 := by omega
        subst this; simpa using h4
      · repeat' (first | exact trivial | exact ⟨_, rfl, rfl⟩ | apply And.intro)
  · have : i = 2 := by simp at h3; omega
    subst this
    conv => whnf
    refine EndZ.int ?_
    simp [h0, h1]

theorem S.cover_Compare (a b : Elem) (ha : a.counts.length < 2^40) (hb : b.counts.length < 2^40) : SpecZ Tryz.prog F.cover_Compare [.dat (.elem a), .dat (.elem b)] (.int (cmpE a b)) := by
  refine SpecZ.of Bd.cover_Compare (by simp) rfl rfl ?_
  conv => whnf
  refine CallZ.pure (S.cmp_Compare_int a.value b.value) rfl ?_
  conv => whnf
  refine CallZ.pure (S.slices_Compare a.counts b.counts ha hb) rfl ?_
  conv => whnf
  refine CallZ.pure (S.cmp_Or_int _ _ true) rfl ?_
  conv => whnf
  refine EndZ.int ?_
  unfold cmpE cmpI
  by_cases h6 : a.value < b.value
  · simp [h6]
  · by_cases h7 : b.value < a.value
    · simp [h6, h7]
    · simp [h6, h7]

theorem S.r05_Leq (a b : Elem) (ha : a.counts.length < 2^40) (hb : b.counts.length < 2^40) : SpecZ Tryz.prog F.r05_Leq [.dat (.elem a), .dat (.elem b)] (.bool (leqE a b)) := by
  refine SpecZ.of Bd.r05_Leq (by simp) rfl rfl ?_
  conv => whnf
  refine VC.mk (by exact fun h => h) ?_
  conv => whnf
  refine VC.mk (by exact fun h => h) ?_
  conv => whnf
  refine VC.mk (by exact fun h => h) ?_
  conv => whnf
  refine VC.mk (by exact fun h => h) ?_
  conv => whnf
  refine VC.mk (by exact fun h => ⟨h, h⟩) ?_
  conv => whnf
  refine VC.mk (by intro h; rw [h]; rfl) ?_
  conv => whnf
  refine Fork.mk (fun h1 => ?_) (fun h1 => ?_)
  · conv => whnf
    refine EndZ.bool ?_
    by_cases hv : a.value = b.value
    · have : leqL a.counts b.counts = false := by
        rw [Bool.eq_false_iff]; intro h; rw [leqL_iff] at h; simp [hv, h.1] at h1
      simp [leqE, this]
    · simp [leqE, hv]
  · have h2 : a.value = b.value ∧ a.counts.length = b.counts.length := by
      by_cases hv : a.value = b.value
      · simp [hv] at h1; exact ⟨hv, by omega⟩
      · simp [hv] at h1
    conv => whnf
    refine LoopZ.same [2, 3] (fun i : Nat => [(5, .int i)]) (fun i => i ≤ a.counts.length ∧ ∀ j, j < i → a.counts.getD j 0 ≤ b.counts.getD j 0) (fun i => a.counts.length - i) 0 rfl (by decide) rfl (fun _ => rfl) ⟨by omega, fun j hj => by omega⟩ ⟨⟨_, rfl, rfl⟩, trivial⟩ ?_
    conv => whnf
    refine ⟨rfl, ?_⟩
    rintro i ⟨hi, hall⟩
    conv => whnf
    refine Fork.mk (fun h3 => ?_) (fun h3 => ?_)
    · have hi' : i < a.counts.length := by simpa using h3
      conv => whnf
      refine VC.mk (by simp only [okI, Rw.rng] at *; first | omega | (simp_all; done) | (simp_all; omega)) ?_
      conv => whnf
      refine VC.mk (by simp only [okI, Rw.rng] at *; first | omega | (simp_all; done) | (simp_all; omega)) ?_
      conv => whnf
      refine Fork.mk (fun h4 => ?_) (fun h4 => ?_)
      · conv => whnf
        refine EndZ.bool ?_
        have : leqL a.counts b.counts = false := by
          rw [Bool.eq_false_iff]; intro h; rw [leqL_iff] at h; have := h.2 i hi'; simp only [Int.toNat_natCast, decide_eq_true_eq] at h4; omega
        simp [leqE, this]
      · conv => whnf
        refine VC.mk (by simp only [okI, Rw.rng] at *; first | omega | (simp_all; done) | (simp_all; omega)) ?_
        conv => whnf
        refine ⟨i + 1, ⟨by omega, fun j hj => ?_⟩, by omega, ⟨⟨_, rfl, rfl⟩, trivial⟩, ?_, rfl⟩
        · by_cases e : j = i
          · subst e; simp only [Int.toNat_natCast, decide_eq_false_iff_not] at h4; omega
          · exact hall j (by omega)
        · repeat' (first | exact trivial | exact ⟨_, rfl, rfl⟩ | apply And.intro)
    · conv => whnf
      refine EndZ.bool ?_
      have hi' : a.counts.length ≤ i := by simpa using h3
      rw [Bool.eq_iff_iff]; simp only [leqE, Bool.and_eq_true, beq_iff_eq, iff_true]
      exact ⟨h2.1, leqL_iff.2 ⟨h2.2, fun j hj => hall j (by omega)⟩⟩
end Go.Proofs.YtgokbcjkbdabnaaGreatDoor
namespace Go.Proofs.YtgokbcjkbdabnaaGreatDoor
open Go.Ab Go.Proofs
set_option maxRecDepth 100000

def smallE (l : List Elem) : Prop := ∀ e ∈ l, e.counts.length < 2^40
theorem smallE.get {l : List Elem} (h : smallE l) (i : Nat) : (l.getD i default).counts.length < 2^40 := by
  rw [List.getD_eq_getElem?_getD]
  cases e : l[i]? with
  | none => show ([] : List Int).length < 2^40; decide
  | some x => exact h x (List.mem_of_getElem? e)

theorem any_take {α : Type} {l : List α} {p : α → Bool} {d : α} {i : Nat} (hi : i < l.length) (h : (l.take i).any p = false) : (l.take (i + 1)).any p = p (l.getD i d) := by
  rw [List.take_add_one, List.any_append, h, Bool.false_or]
  simp [hi]
theorem any_of_get {α : Type} {l : List α} {p : α → Bool} {d : α} {i : Nat} (hi : i < l.length) (h : p (l.getD i d) = true) : l.any p = true := by
  rw [List.any_eq_true]
  exact ⟨l[i], List.getElem_mem hi, by simpa [hi] using h⟩

theorem S.cover_Contains (l : List Elem) (e : Elem) (f : Bool) (hl : l.length < 2^40) (hs : smallE l) (he : e.counts.length < 2^40) : SpecZ Tryz.prog F.cover_Contains [.row 3 f (.elems l), .dat (.elem e)] (.bool (l.any fun b => leqE b e)) := by
  refine SpecZ.of Bd.cover_Contains (by simp) rfl rfl ?_
  conv => whnf
  refine LoopZ.same [3, 7, 8] (fun i : Nat => [(9, .int i)]) (fun i => i ≤ l.length ∧ (l.take i).any (fun b => leqE b e) = false) (fun i => l.length - i) 0 rfl (by decide) rfl (fun _ => rfl) ⟨by omega, by simp⟩ ⟨⟨_, rfl, rfl⟩, trivial⟩ ?_
  conv => whnf
  refine ⟨rfl, ?_⟩
  rintro i ⟨hi, hall⟩
  conv => whnf
  refine Fork.mk (fun h3 => ?_) (fun h3 => ?_)
  · have hi' : i < l.length := by simpa using h3
    conv => whnf
    refine VC.mk (by simp only [okI, Rw.rng] at *; first | omega | (simp_all; done) | (simp_all; omega)) ?_
    conv => whnf
    refine CallZ.pure (S.cover_Leq _ _ (by simpa using hs.get i) he) rfl ?_
    conv => whnf
    refine Fork.mk (fun h4 => ?_) (fun h4 => ?_)
    · conv => whnf
      refine EndZ.bool ?_
      simp only [Int.toNat_natCast] at h4
      exact any_of_get hi' h4
    · conv => whnf
      refine VC.mk (by simp only [okI, Rw.rng] at *; first | omega | (simp_all; done) | (simp_all; omega)) ?_
      conv => whnf
      simp only [Int.toNat_natCast] at h4
      refine ⟨i + 1, ⟨by omega, by rw [any_take hi' hall]; exact h4⟩, by omega, ⟨⟨_, rfl, rfl⟩, trivial⟩, ?_, rfl⟩
      repeat' (first | exact trivial | exact ⟨_, rfl, rfl⟩ | apply And.intro)
  · conv => whnf
    refine EndZ.bool ?_
    have hi' : l.length ≤ i := by simpa using h3
    rw [List.take_of_length_le hi'] at hall; exact hall

theorem S.r05_Lists (a b : List Int) (ha : a.length < 2^40) (hb : b.length < 2^40) : SpecZ Tryz.prog F.r05_Lists [.row 0 false (.ints a), .row 0 false (.ints b)] (.int (cmpL a b)) := by
  refine SpecZ.of Bd.r05_Lists (by simp) rfl rfl ?_
  conv => whnf
  refine LoopZ.same [0, 1] (fun i : Nat => [(5, .int i)]) (fun i => i ≤ a.length ∧ i ≤ b.length ∧ cmpL a b = cmpL (a.drop i) (b.drop i)) (fun i => a.length - i) 0 rfl (by decide) rfl (fun _ => rfl) ⟨by omega, by omega, rfl⟩ ⟨⟨_, rfl, rfl⟩, trivial⟩ ?_
  conv => whnf
  refine ⟨rfl, ?_⟩
  rintro i ⟨hi, hj, he⟩
  conv => whnf
  refine VC.mk (by exact fun h => h) ?_
  conv => whnf
  refine VC.mk (by exact fun h => ⟨h, h⟩) ?_
  conv => whnf
  refine VC.mk (by exact fun h => h) ?_
  conv => whnf
  refine Fork.mk (fun h3 => ?_) (fun h3 => ?_)
  · have hi' : i < a.length ∧ i < b.length := by
      by_cases h : i < a.length
      · simp [h] at h3; exact ⟨h, by omega⟩
      · simp [h] at h3
    rw [cmpL_step hi'.1 hi'.2] at he
    obtain ⟨hi1, hi2⟩ := hi'
    conv => whnf
    refine VC.mk (by simp only [okI, Rw.rng] at *; first | omega | (simp_all; done) | (simp_all; omega)) ?_
    conv => whnf
    refine VC.mk (by simp only [okI, Rw.rng] at *; first | omega | (simp_all; done) | (simp_all; omega)) ?_
    conv => whnf
    refine Fork.mk (fun h5 => ?_) (fun h5 => ?_)
    · conv => whnf
      refine EndZ.int ?_
      simp only [Int.toNat_natCast, decide_eq_true_eq] at h5
      rw [he, if_pos h5]
    · conv => whnf
      refine VC.mk (by simp only [okI, Rw.rng] at *; first | omega | (simp_all; done) | (simp_all; omega)) ?_
      conv => whnf
      refine VC.mk (by simp only [okI, Rw.rng] at *; first | omega | (simp_all; done) | (simp_all; omega)) ?_
      conv => whnf
      simp only [Int.toNat_natCast, decide_eq_false_iff_not] at h5
      refine Fork.mk (fun h6 => ?_) (fun h6 => ?_)
      · conv => whnf
        refine EndZ.int ?_
        simp only [Int.toNat_natCast, decide_eq_true_eq] at h6
        rw [he, if_neg h5, if_pos h6]
      · conv => whnf
        refine VC.mk (by simp only [okI, Rw.rng] at *; first | omega | (simp_all; done) | (simp_all; omega)) ?_
        conv => whnf
        simp only [Int.toNat_natCast, decide_eq_false_iff_not] at h6
        refine ⟨i + 1, ⟨by omega, by omega, by rw [he, if_neg h5, if_neg h6]⟩, by omega, ⟨⟨_, rfl, rfl⟩, trivial⟩, ?_, rfl⟩
        repeat' (first | exact trivial | exact ⟨_, rfl, rfl⟩ | apply And.intro)
  · have hi' : a.length ≤ i ∨ b.length ≤ i := by
      by_cases h : i < a.length
      · simp [h] at h3; exact .inr (by omega)
      · exact .inl (by omega)
    have hx := cmpL_end hi' hi hj
    rw [← he] at hx
    conv => whnf
    refine Fork.mk (fun h4 => ?_) (fun h4 => ?_)
    · conv => whnf
      refine EndZ.int ?_
      rw [hx, if_pos (by simpa using h4)]
    · conv => whnf
      have h5 : ¬ a.length < b.length := by simpa using h4
      refine Fork.mk (fun h6 => ?_) (fun h6 => ?_)
      · conv => whnf
        refine EndZ.int ?_
        rw [hx, if_neg h5, if_pos (by simpa using h6)]
      · conv => whnf
        refine EndZ.int ?_
        rw [hx, if_neg h5, if_neg (by simpa using h6)]

theorem S.r05_Compare (a b : Elem) (ha : a.counts.length < 2^40) (hb : b.counts.length < 2^40) : SpecZ Tryz.prog F.r05_Compare [.dat (.elem a), .dat (.elem b)] (.int (cmpE a b)) := by
  refine SpecZ.of Bd.r05_Compare (by simp) rfl rfl ?_
  conv => whnf
  refine Fork.mk (fun h1 => ?_) (fun h1 => ?_)
  · conv => whnf
    exact EndZ.int (by simp only [decide_eq_true_eq] at h1; simp [cmpE, h1])
  · conv => whnf
    simp only [decide_eq_false_iff_not] at h1
    refine Fork.mk (fun h2 => ?_) (fun h2 => ?_)
    · conv => whnf
      exact EndZ.int (by simp only [decide_eq_true_eq] at h2; simp [cmpE, h1, h2])
    · simp only [decide_eq_false_iff_not] at h2
      conv => whnf
      refine CallZ.pure (S.r05_Lists a.counts b.counts ha hb) rfl ?_
      conv => whnf
      exact EndZ.int (by simp [cmpE, h1, h2])

theorem cmpL_eq : ∀ {a b : List Int}, cmpL a b = 0 ↔ a = b := by
  intro a
  induction a with
  | nil => intro b; cases b <;> simp [cmpL]
  | cons x a ih =>
    intro b
    cases b with
    | nil => simp [cmpL]
    | cons y b =>
      simp only [cmpL]
      split
      · simp; omega
      · split
        · simp; omega
        · rw [ih]; simp; intro _; omega
theorem cmpE_eq {a b : Elem} : cmpE a b = 0 ↔ a = b := by
  obtain ⟨v, c⟩ := a; obtain ⟨w, d⟩ := b
  simp only [cmpE]
  split
  · simp; omega
  · split
    · simp; omega
    · rw [cmpL_eq]; simp; intro _; omega

theorem S.r05_Same (a b : List Elem) (f g : Bool) (ha : a.length < 2^40) (hb : b.length < 2^40) (sa : smallE a) (sb : smallE b) : SpecZ Tryz.prog F.r05_Same [.row 3 f (.elems a), .row 3 g (.elems b)] (.bool (decide (a = b))) := by
  refine SpecZ.of Bd.r05_Same (by simp) rfl rfl ?_
  conv => whnf
  refine Fork.mk (fun h1 => ?_) (fun h1 => ?_)
  · conv => whnf
    refine EndZ.bool ?_
    refine decide_eq_false ?_
    simp at h1
    rintro rfl; exact h1 rfl
  · have hlen : a.length = b.length := by simp at h1; omega
    conv => whnf
    refine LoopZ.same [0, 1] (fun i : Nat => [(5, .int i)]) (fun i => i ≤ a.length ∧ a.take i = b.take i) (fun i => a.length - i) 0 rfl (by decide) rfl (fun _ => rfl) ⟨by omega, by simp⟩ ⟨⟨_, rfl, rfl⟩, trivial⟩ ?_
    conv => whnf
    refine ⟨rfl, ?_⟩
    rintro i ⟨hi, hall⟩
    conv => whnf
    refine Fork.mk (fun h3 => ?_) (fun h3 => ?_)
    · have hi' : i < a.length := by simpa using h3
      conv => whnf
      refine VC.mk (by simp only [okI, Rw.rng] at *; first | omega | (simp_all; done) | (simp_all; omega)) ?_
      conv => whnf
      refine VC.mk (by simp only [okI, Rw.rng] at *; first | omega | (simp_all; done) | (simp_all; omega)) ?_
      conv => whnf
      refine CallZ.pure (S.r05_Compare _ _ (by simpa using sa.get i) (by simpa using sb.get i)) rfl ?_
      conv => whnf
      refine Fork.mk (fun h4 => ?_) (fun h4 => ?_)
      · conv => whnf
        refine EndZ.bool ?_
        refine decide_eq_false ?_
        rintro rfl
        simp only [Int.toNat_natCast, bne_iff_ne, ne_eq] at h4
        exact h4 (cmpE_eq.2 rfl)
      · conv => whnf
        refine VC.mk (by simp only [okI, Rw.rng] at *; first | omega | (simp_all; done) | (simp_all; omega)) ?_
        conv => whnf
        simp only [Int.toNat_natCast, bne_eq_false_iff_eq] at h4
        rw [cmpE_eq] at h4
        refine ⟨i + 1, ⟨by omega, ?_⟩, by omega, ⟨⟨_, rfl, rfl⟩, trivial⟩, ?_, rfl⟩
        · rw [List.take_add_one, List.take_add_one, hall]
          congr 1
          have hb' : i < b.length := by omega
          simp only [List.getD_eq_getElem?_getD, List.getElem?_eq_getElem hi', List.getElem?_eq_getElem hb', Option.getD_some] at h4
          simp [hi', hb', h4]
        · repeat' (first | exact trivial | exact ⟨_, rfl, rfl⟩ | apply And.intro)
    · conv => whnf
      refine EndZ.bool ?_
      have hi' : a.length ≤ i := by simpa using h3
      rw [List.take_of_length_le hi', List.take_of_length_le (by omega)] at hall
      symm; simpa using hall

def wideL (l : List Elem) : Bool := decide (60 < l.length) || l.any fun e => decide (8 < e.counts.length)
theorem S.law05_wide (l : List Elem) (f : Bool) (hl : l.length < 2^40) (hs : smallE l) : SpecZ Tryz.prog F.law05_wide [.row 3 f (.elems l)] (.bool (wideL l)) := by
  refine SpecZ.of Bd.law05_wide (by simp) rfl rfl ?_
  conv => whnf
  refine Fork.mk (fun h1 => ?_) (fun h1 => ?_)
  · conv => whnf
    refine EndZ.bool ?_
    have : 60 < l.length := by simp at h1; omega
    simp [wideL, this]
  · conv => whnf
    have h60 : ¬ 60 < l.length := by simp at h1; omega
    refine LoopZ.same [0] (fun i : Nat => [(3, .int i)]) (fun i => i ≤ l.length ∧ (l.take i).any (fun e => decide (8 < e.counts.length)) = false) (fun i => l.length - i) 0 rfl (by decide) rfl (fun _ => rfl) ⟨by omega, by simp⟩ ⟨⟨_, rfl, rfl⟩, trivial⟩ ?_
    conv => whnf
    refine ⟨rfl, ?_⟩
    rintro i ⟨hi, hall⟩
    conv => whnf
    refine Fork.mk (fun h3 => ?_) (fun h3 => ?_)
    · have hi' : i < l.length := by simpa using h3
      conv => whnf
      refine VC.mk (by simp only [okI, Rw.rng] at *; first | omega | (simp_all; done) | (simp_all; omega)) ?_
      conv => whnf
      refine Fork.mk (fun h4 => ?_) (fun h4 => ?_)
      · conv => whnf
        refine EndZ.bool ?_
        simp only [Int.toNat_natCast] at h4
        have h5 : (l.any fun e => decide (8 < e.counts.length)) = true := any_of_get (d := default) hi' (by simp only [decide_eq_true_eq] at h4 ⊢; omega)
        simp [wideL, h5]
      · conv => whnf
        refine VC.mk (by simp only [okI, Rw.rng] at *; first | omega | (simp_all; done) | (simp_all; omega)) ?_
        conv => whnf
        simp only [Int.toNat_natCast] at h4
        refine ⟨i + 1, ⟨by omega, by rw [any_take (d := default) hi' hall]; simp only [decide_eq_false_iff_not] at h4 ⊢; omega⟩, by omega, ⟨⟨_, rfl, rfl⟩, trivial⟩, ?_, rfl⟩
        repeat' (first | exact trivial | exact ⟨_, rfl, rfl⟩ | apply And.intro)
    · conv => whnf
      refine EndZ.bool ?_
      have hi' : l.length ≤ i := by simpa using h3
      rw [List.take_of_length_le hi'] at hall
      simp only [wideL, hall, Bool.or_false]
      simp only [h60, decide_false]
end Go.Proofs.YtgokbcjkbdabnaaGreatDoor
namespace Go.Proofs.YtgokbcjkbdabnaaGreatDoor
open Go.Ab Go.Proofs
set_option maxRecDepth 100000

def okN (n : Int) : Bool := decide (0 ≤ n) && decide (n ≤ 1048576)
theorem S.cover_inRange (l : List Int) (f : Bool) (hl : l.length < 2^40) : SpecZ Tryz.prog F.cover_inRange [.row 0 f (.ints l)] (.bool (l.all okN)) := by
  refine SpecZ.of Bd.cover_inRange (by simp) rfl rfl ?_
  conv => whnf
  refine LoopZ.same [5, 6] (fun i : Nat => [(7, .int i)]) (fun i => i ≤ l.length ∧ (l.take i).all okN = true) (fun i => l.length - i) 0 rfl (by decide) rfl (fun _ => rfl) ⟨by omega, by simp⟩ ⟨⟨_, rfl, rfl⟩, trivial⟩ ?_
  conv => whnf
  refine ⟨rfl, ?_⟩
  rintro i ⟨hi, hall⟩
  conv => whnf
  refine Fork.mk (fun h3 => ?_) (fun h3 => ?_)
  · have hi' : i < l.length := by simpa using h3
    conv => whnf
    refine VC.mk (by simp only [okI, Rw.rng] at *; first | omega | (simp_all; done) | (simp_all; omega)) ?_
    conv => whnf
    refine VC.mk (by exact fun h => h) ?_
    conv => whnf
    refine VC.mk (by intro h; rw [h]; rfl) ?_
    conv => whnf
    refine Fork.mk (fun h4 => ?_) (fun h4 => ?_)
    · conv => whnf
      refine EndZ.bool ?_
      simp only [Int.toNat_natCast] at h4
      have h5 : okN (l.getD i 0) = false := by
        have key : ∀ x : Int, (decide (x < 0) || decide (1048576 < x)) = true → okN x = false := by
          intro x h4
          unfold okN
          by_cases h0 : x < 0
          · simp; omega
          · simp [h0] at h4; simp; omega
        exact key _ h4
      rw [Bool.eq_false_iff]
      intro h
      rw [List.all_eq_true] at h
      have := h l[i] (List.getElem_mem hi')
      rw [show l.getD i 0 = l[i] by simp [hi']] at h5
      rw [this] at h5; cases h5
    · conv => whnf
      refine VC.mk (by simp only [okI, Rw.rng] at *; first | omega | (simp_all; done) | (simp_all; omega)) ?_
      conv => whnf
      simp only [Int.toNat_natCast] at h4
      refine ⟨i + 1, ⟨by omega, ?_⟩, by omega, ⟨⟨_, rfl, rfl⟩, trivial⟩, ?_, rfl⟩
      · have h5 : okN (l.getD i 0) = true := by
          have key : ∀ x : Int, (decide (x < 0) || decide (1048576 < x)) = false → okN x = true := by
            intro x h4
            unfold okN
            by_cases h0 : x < 0
            · simp [h0] at h4
            · simp [h0] at h4; simp; omega
          exact key _ h4
        rw [List.take_add_one, List.all_append, hall]
        simpa [hi'] using h5
      · repeat' (first | exact trivial | exact ⟨_, rfl, rfl⟩ | apply And.intro)
  · conv => whnf
    refine EndZ.bool ?_
    have hi' : l.length ≤ i := by simpa using h3
    rw [List.take_of_length_le hi'] at hall; exact hall

def totE (e : Elem) : Int := if 6 < e.counts.length then 0 else if e.counts.all okN = true then e.counts.sum else 0
theorem sum_bound : ∀ {l : List Int}, l.all okN = true → 0 ≤ l.sum ∧ l.sum ≤ l.length * 1048576 := by
  intro l
  induction l with
  | nil => intro _; simp
  | cons x l ih =>
    intro h
    simp only [List.all_cons, Bool.and_eq_true, okN, decide_eq_true_eq] at h
    have := ih h.2
    simp only [List.sum_cons, List.length_cons]
    omega
theorem all_take {l : List Int} (h : l.all okN = true) (i : Nat) : (l.take i).all okN = true := by
  rw [List.all_eq_true] at h ⊢
  exact fun x hx => h x (List.mem_of_mem_take hx)
theorem sum_take {l : List Int} {i : Nat} (hi : i < l.length) : (l.take (i + 1)).sum = (l.take i).sum + l.getD i 0 := by
  rw [List.take_add_one, List.sum_append]; simp [hi]
theorem S.cover_Total (e : Elem) (hl : e.counts.length < 2^40) : SpecZ Tryz.prog F.cover_Total [.dat (.elem e)] (.int (totE e)) := by
  refine SpecZ.of Bd.cover_Total (by simp) rfl rfl ?_
  conv => whnf
  refine VC.mk (by exact fun h => h) ?_
  conv => whnf
  refine VC.mk (by exact fun h => h) ?_
  conv => whnf
  refine CallZ.pureG (fun _ => S.cover_inRange e.counts false hl) rfl ?_
  conv => whnf
  refine VC.mk (by exact fun h => h) ?_
  conv => whnf
  refine VC.mk (by intro h; rw [h]; rfl) ?_
  conv => whnf
  refine Fork.mk (fun h1 => ?_) (fun h1 => ?_)
  · conv => whnf
    refine EndZ.int ?_
    unfold totE
    by_cases h : 6 < e.counts.length
    · rw [if_pos h]
    · rw [if_neg h, if_neg]
      have h' : ¬ (6 : Int) < e.counts.length := by omega
      simp [h'] at h1
      intro hh
      rw [List.all_eq_true] at hh
      obtain ⟨x, hx, hx'⟩ := h1
      exact absurd (hh x hx) (by simp [hx'])
  · have h2 : ¬ 6 < e.counts.length ∧ e.counts.all okN = true := by
      by_cases h : (6 : Int) < e.counts.length
      · simp [h] at h1
      · simp [h] at h1
        exact ⟨by omega, by rw [List.all_eq_true]; exact h1⟩
    conv => whnf
    refine LoopZ.same [17, 18] (fun i : Nat => [(19, .int i), (3, .int (e.counts.take i).sum)]) (fun i => i ≤ e.counts.length) (fun i => e.counts.length - i) 0 rfl (by decide) rfl (fun _ => rfl) (by omega) ⟨⟨_, rfl, rfl⟩, ⟨_, rfl, rfl⟩, trivial⟩ ?_
    conv => whnf
    refine ⟨rfl, ?_⟩
    rintro i hi
    have hb := sum_bound (all_take h2.2 i)
    have hb' : ((e.counts.take i).length : Int) ≤ 6 := by simp; omega
    conv => whnf
    refine Fork.mk (fun h3 => ?_) (fun h3 => ?_)
    · have hi' : i < e.counts.length := by simpa using h3
      have hs := sum_take hi'
      have hc := sum_bound (all_take h2.2 (i + 1))
      have hc' : ((e.counts.take (i + 1)).length : Int) ≤ 6 := by simp; omega
      conv => whnf
      refine VC.mk (by simp only [okI, Rw.rng] at *; first | omega | (simp_all; done) | (simp_all; omega)) ?_
      conv => whnf
      refine VC.mk (by simp only [okI, Int.toNat_natCast] at *; rw [← hs]; omega) ?_
      conv => whnf
      refine VC.mk (by simp only [okI, Rw.rng] at *; first | omega | (simp_all; done) | (simp_all; omega)) ?_
      conv => whnf
      refine ⟨i + 1, by omega, by omega, ⟨⟨_, rfl, rfl⟩, ⟨_, rfl, ?_⟩, trivial⟩, ?_, rfl⟩
      · rw [hs]; simp [V.toT, cndV]
      · repeat' (first | exact trivial | exact ⟨_, rfl, rfl⟩ | apply And.intro)
    · conv => whnf
      refine EndZ.int ?_
      have hi' : e.counts.length ≤ i := by simpa using h3
      rw [List.take_of_length_le hi']
      simp [totE, h2.1, h2.2]

def abvE (x y : Elem) : Bool := leqE y x && (cmpE y x != 0)
theorem S.cover_item_above (x y : Elem) (d : Bool) (hx : x.counts.length < 2^40) (hy : y.counts.length < 2^40) : SpecZ Tryz.prog F.cover_item_above [.agg [.int x.value, .row 0 false (.ints x.counts), .bool d], .dat (.elem y)] (.bool (abvE x y)) := by
  refine SpecZ.of Bd.cover_item_above (by simp) rfl rfl ?_
  conv => whnf
  refine CallZ.pure (S.cover_Leq y x hy hx) rfl ?_
  conv => whnf
  refine VC.mk (by exact fun h => h) ?_
  conv => whnf
  refine VC.mk (by exact fun h => ⟨h, h⟩) ?_
  conv => whnf
  refine CallZ.pureG (fun _ => S.cover_Compare y x hy hx) rfl ?_
  conv => whnf
  refine VC.mk (by exact fun h => h) ?_
  conv => whnf
  refine VC.mk (by exact fun h => h) ?_
  conv => whnf
  refine EndZ.bool ?_
  cases h : leqE y x <;> simp [abvE, h]

def idxE (p : Elem → Bool) (l : List Elem) : Int := if l.any p = true then (l.findIdx p : Int) else -1
theorem findIdx_first {p : Elem → Bool} {l : List Elem} {i : Nat} (hi : i < l.length) (h0 : (l.take i).any p = false) (h1 : p (l.getD i default) = true) : l.findIdx p = i := by
  rw [List.findIdx_eq hi]
  refine ⟨by simpa [hi] using h1, fun j hj => ?_⟩
  rw [List.any_eq_false] at h0
  have := h0 l[j] (by rw [List.mem_take_iff_getElem]; exact ⟨j, by omega, rfl⟩)
  simpa using this

/-- A function value that answers p on small elements. -/
def FnE (v : V) (p : Elem → Bool) : Prop := ∃ f cap, v = .fn f cap ∧ V.freeL cap = true ∧ ∀ y : Elem, y.counts.length < 2^40 → SpecZ Tryz.prog (bif Nat.blt f 4096 then f else f % 4096) (bif Nat.blt f 4096 then .dat (.elem y) :: cap else [.agg cap, .dat (.elem y)]) (.bool (p y))

theorem S.IndexAbove (l : List Elem) (x : Elem) (d f : Bool) (hl : l.length < 2^40) (hs : smallE l) (hx : x.counts.length < 2^40) :
    SpecZ Tryz.prog F.slices_IndexFunc_Lapi_Element_api_Element [.row 3 f (.elems l), .fn (F.cover_item_above + 4096) [.int x.value, .row 0 false (.ints x.counts), .bool d]] (.int (idxE (abvE x) l)) := by
  refine SpecZ.of Bd.slices_IndexFunc_Lapi_Element_api_Element (by simp) rfl rfl ?_
  conv => whnf
  refine LoopZ.same [0, 1, 6, 7] (fun i : Nat => [(8, .int i)]) (fun i => i ≤ l.length ∧ (l.take i).any (abvE x) = false) (fun i => l.length - i) 0 rfl (by decide) rfl (fun _ => rfl) ⟨by omega, by simp⟩ ⟨⟨_, rfl, rfl⟩, trivial⟩ ?_
  conv => whnf
  refine ⟨rfl, ?_⟩
  rintro i ⟨hi, hall⟩
  conv => whnf
  refine Fork.mk (fun h3 => ?_) (fun h3 => ?_)
  · have hi' : i < l.length := by simpa using h3
    conv => whnf
    refine VC.mk (by simp only [okI, Rw.rng] at *; first | omega | (simp_all; done) | (simp_all; omega)) ?_
    conv => whnf
    refine CallZ.pure (S.cover_item_above x (l.getD i default) d hx (hs.get i)) rfl ?_
    conv => whnf
    refine Fork.mk (fun h4 => ?_) (fun h4 => ?_)
    · conv => whnf
      refine EndZ.int ?_
      rw [idxE, if_pos (any_of_get hi' h4), findIdx_first hi' hall h4]
    · conv => whnf
      refine VC.mk (by simp only [okI, Rw.rng] at *; first | omega | (simp_all; done) | (simp_all; omega)) ?_
      conv => whnf
      refine ⟨i + 1, ⟨by omega, by rw [any_take hi' hall]; exact h4⟩, by omega, ⟨⟨_, rfl, rfl⟩, trivial⟩, ?_, rfl⟩
      repeat' (first | exact trivial | exact ⟨_, rfl, rfl⟩ | apply And.intro)
  · conv => whnf
    refine EndZ.int ?_
    have hi' : l.length ≤ i := by simpa using h3
    rw [List.take_of_length_le hi'] at hall
    rw [idxE, hall]; rfl

theorem S.ContainsAbove (l : List Elem) (x : Elem) (d f : Bool) (hl : l.length < 2^40) (hs : smallE l) (hx : x.counts.length < 2^40) :
    SpecZ Tryz.prog F.slices_ContainsFunc_Lapi_Element_api_Element [.row 3 f (.elems l), .fn (F.cover_item_above + 4096) [.int x.value, .row 0 false (.ints x.counts), .bool d]] (.bool (l.any (abvE x))) := by
  refine SpecZ.of Bd.slices_ContainsFunc_Lapi_Element_api_Element (by simp) rfl rfl ?_
  conv => whnf
  refine CallZ.pure (S.IndexAbove l x d f hl hs hx) rfl ?_
  conv => whnf
  refine EndZ.bool ?_
  unfold idxE
  cases h : l.any (abvE x)
  · simp
  · simp

theorem S.cover_tidy_c1 (a b : Elem) (ha : a.counts.length < 2^40) (hb : b.counts.length < 2^40) : SpecZ Tryz.prog F.cover_tidy_c1 [.dat (.elem a), .dat (.elem b)] (.bool (decide (a = b))) := by
  refine SpecZ.of Bd.cover_tidy_c1 (by simp) rfl rfl ?_
  conv => whnf
  refine CallZ.pure (S.cover_Compare a b ha hb) rfl ?_
  conv => whnf
  refine EndZ.bool ?_
  rw [Bool.eq_iff_iff]; simp only [decide_eq_true_eq, beq_iff_eq]
  exact cmpE_eq.symm

theorem EndZ.elem {e : Elem} {n ty : Nat} {h : Hz} (q : h.get n = some (.row ty 0 (.ints e.counts) [])) : EndZ (.dat (.elem e)) (.agg [.int e.value, .own n]) h := ⟨by
  show T.sub (fun _ => True) h.toHp (eElem e) (.agg [.int e.value, .own n])
  simp only [eElem, T.sub, T.subL, and_true]
  refine ⟨trivial, trivial, trivial, ?_, by decide, ty, ?_⟩
  · rw [freeL_iff]; intro t ht; obtain ⟨x, _, rfl⟩ := List.mem_map.1 ht; rfl
  · have := toHp_some q; simpa [OV.toOb, Rw.toL, V.toL] using this⟩

theorem S.r05_Copy (e : Elem) (he : e.counts.length < 2^40) : SpecZ Tryz.prog F.r05_Copy [.dat (.elem e)] (.dat (.elem e)) := by
  refine SpecZ.of Bd.r05_Copy (by simp) rfl rfl ?_
  conv => whnf
  refine VC.mk (by simp only [capOk, lenRX, Rw.len]; omega) ?_
  conv => whnf
  exact EndZ.elem (ty := Y.int) rfl

theorem S.cover_item_copied (e : Elem) (d : Bool) (he : e.counts.length < 2^40) : SpecZ Tryz.prog F.cover_item_copied [.agg [.int e.value, .row 0 false (.ints e.counts), .bool d]] (.dat (.elem e)) := by
  refine SpecZ.of Bd.cover_item_copied (by simp) rfl rfl ?_
  conv => whnf
  refine VC.mk (by simp only [capOk, lenRX, Rw.len]; omega) ?_
  conv => whnf
  exact EndZ.elem (ty := Y.int) rfl
theorem CallZ.lend {P : Program} {dr : Bool} {f : FuncId} {args args' : List V} {res : V} {h : Hz} {n : Nat} {K : V → Hz → Prop} (S : SpecZ P f args' res) (hs : T.subL (fun _ => True) h.toHp (V.toL args') (V.toL args)) (hh : res.toT.hard = true) (hr : res.free = true) (hK : K res h) : CallZ P dr none f args h n K :=
  ⟨AFn.lend S hs hh (fun _ e => by cases e) ⟨res, h, rfl, rfl, fun _ => ⟨rfl, V.free_toT res hr⟩, hK⟩⟩
theorem elems_free (l : List Elem) : T.freeL (l.map eElem) = true := by
  rw [freeL_iff]; intro t ht; obtain ⟨x, _, rfl⟩ := List.mem_map.1 ht; rfl
theorem SubA.of_eq {a b : List T} (h : a = b) : SubA a b := by subst h; exact .refl _
theorem CallZ.lendG {P : Program} {dr b : Bool} {f : FuncId} {args args' : List V} {res : V} {h : Hz} {n : Nat} {K : V → Hz → Prop} (S : b = true → SpecZ P f args' res) (hs : b = true → T.subL (fun _ => True) h.toHp (V.toL args') (V.toL args)) (hh : res.toT.hard = true) (hr : res.free = true) (hK : K res h) : CallZ P dr (some b) f args h n K :=
  ⟨res, fun e => AFn.lend (S e) (hs e) hh (fun _ e => by cases e) ⟨rfl, rfl⟩, hr, hK⟩
end Go.Proofs.YtgokbcjkbdabnaaGreatDoor
