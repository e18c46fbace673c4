/-
 A part of the proof. No condition.
-/
import Derived.Test.YtgokbcjkbdabnaaGreatDoorVa
namespace Go.Proofs.YtgokbcjkbdabnaaGreatDoor
open Go.Ab Go.Proofs
set_option maxRecDepth 100000
def withE (n lo hi : Int) : Bool := decide (n ≥ lo) && decide (n ≤ hi)
theorem S.r02_within (n lo hi : Int) : SpecZ Tryz.prog F.r02_within [.int n, .int lo, .int hi] (.bool (withE n lo hi)) := by
 refine SpecZ.of Bd.r02_within (by simp) rfl rfl ?_
 conv => whnf
 repeat (refine VC.mk (by first | exact fun h => h | exact fun h => ⟨h, h⟩) ?_; conv => whnf)
 exact EndZ.bool rfl
theorem withE_out {x n : Int} : withE x 0 (n - 1) = !(outE x n) := by
 unfold withE outE
 rw [Bool.eq_iff_iff]; simp; omega
theorem S.r02_few (l : Lin) : SpecZ Tryz.prog F.r02_few [.dat (.lin l)] (.bool (bndE l)) := by
 refine SpecZ.of Bd.r02_few (by simp) rfl rfl ?_
 conv => whnf
 refine CallZ.pure (S.r02_within l.c (-100) 100) rfl ?_
 conv => whnf
 repeat (refine VC.mk (by exact fun h => h) ?_; conv => whnf)
 refine CallZ.pureG (fun _ => S.r02_within l.n (-100) 100) rfl ?_
 conv => whnf
 repeat (refine VC.mk (by exact fun h => h) ?_; conv => whnf)
 refine CallZ.pureG (fun _ => S.r02_within l.t (-100) 100) rfl ?_
 conv => whnf
 repeat (refine VC.mk (by exact fun h => h) ?_; conv => whnf)
 refine CallZ.pureG (fun _ => S.r02_within l.f (-100) 100) rfl ?_
 conv => whnf
 refine .mk (by exact fun h => h) ?_
 conv => whnf
 exact EndZ.bool rfl
theorem S.r02_HasText (l : List Str) (s : Str) (f : Bool) (hl : l.length < 2^40) : SpecZ Tryz.prog F.r02_HasText [.row 0 f (.strs l), .str s] (.bool (l.any fun x => s == x)) := by
 refine SpecZ.of Bd.r02_HasText (by simp) rfl rfl ?_
 conv => whnf
 refine LoopZ.same [0, 1] (fun i : Nat => [(5, .int i)]) (fun i => i ≤ l.length ∧ (l.take i).any (fun x => s == x) = false) (fun i => l.length - i) 0 rfl (by decide) rfl (fun _ => rfl) ⟨by omega, by simp⟩ ⟨⟨_, rfl, rfl⟩, trivial⟩ ?_
 conv => whnf
 refine ⟨rfl, ?_⟩
 rintro i ⟨hi, hall⟩
 conv => whnf
 refine ⟨fun h3 => ?_, fun h3 => ?_⟩
 ·have hi' : i < l.length := by simpa using h3
  conv => whnf
  refine .mk (by simp only [okI, Rw.rng] at *; omega) ?_
  conv => whnf
  refine ⟨fun h4 => ?_, fun h4 => ?_⟩
  ·have h4' : (s == l.getD i []) = true := by rw [show (s == l.getD i []) = (l.getD i [] == s) from Bool.beq_comm]; exact h4
   conv => whnf
   exact EndZ.bool (any_of_get (d := []) hi' h4')
  ·have h4' : (s == l.getD i []) = false := by rw [show (s == l.getD i []) = (l.getD i [] == s) from Bool.beq_comm]; exact h4
   conv => whnf
   refine .mk (by simp only [okI, Rw.rng] at *; omega) ?_
   conv => whnf
   refine ⟨i + 1, ⟨by omega, ?_⟩, by omega, ⟨⟨_, rfl, rfl⟩, trivial⟩, ?_, rfl⟩
   ·rw [any_take (d := []) hi' hall]; exact h4'
   ·repeat' (first | exact trivial | exact ⟨_, rfl, rfl⟩ | constructor)
 ·have hi' : l.length ≤ i := by simpa using h3
  rw [List.take_of_length_le hi'] at hall
  conv => whnf
  exact EndZ.bool hall
theorem S.r02_reserved : SpecZ Tryz.prog F.r02_reserved [] (.row 0 false (.strs rsvWords)) := by
 refine SpecZ.of Bd.r02_reserved (by simp) rfl rfl ?_
 conv => whnf
 exact EndZ.row (congrArg Rw.strs (by kernel_rfl))
theorem bs_toList (s : Str) : (bs s).toList = s := by rw [Lib.toList_data]; rfl
theorem nmB_bs (s : Str) : nmB (bs s) = (!(s.isEmpty) && !(decide (12 < (s.length : Int))) && lettersB s) := by
 unfold nmB
 rw [bs_toList, bs_size]; rfl
theorem letter_name {c : Nat} (h : letterB c = true) : nameB c = true := by unfold nameB; rw [h]; rfl
theorem lettersB_eq {s : Str} (h : s ≠ []) : lettersB s = (letterB (s.getD 0 0).toNat && s.all fun c => nameB c.toNat) := by
 cases s with
 | nil => exact absurd rfl h
 | cons c r =>
  simp only [lettersB, List.getD_cons_zero, List.all_cons]
  cases hl : letterB c.toNat with
  | false => rfl
  | true => rw [letter_name hl]; simp
theorem all_take1 {α : Type} {l : List α} {p : α → Bool} {d : α} {i : Nat} (hi : i < l.length) (h : (l.take i).all p = true) : (l.take (i + 1)).all p = p (l.getD i d) := by
 rw [List.take_add_one, List.all_append, h, Bool.true_and]
 simp [hi]
theorem all_of_get {α : Type} {l : List α} {p : α → Bool} {d : α} {i : Nat} (hi : i < l.length) (h : p (l.getD i d) = false) : l.all p = false := by
 rw [Bool.eq_false_iff]; intro q
 rw [List.all_eq_true] at q
 have := q l[i] (List.getElem_mem hi)
 rw [show l.getD i d = l[i] by simp [hi]] at h
 rw [h] at this; cases this
def u8 (s : Str) (i : Nat) : Nat := (s.getD i 0).toNat
theorem nameB_eq {c : Nat} : nameB c = (decide (97 ≤ c ∧ c ≤ 122) || decide (48 ≤ c ∧ c ≤ 57) || decide (c = 95)) := by
 rw [Bool.eq_iff_iff]; simp [nameB, letterB]
theorem letterB_eq {c : Nat} : letterB c = decide (97 ≤ c ∧ c ≤ 122) := by
 rw [Bool.eq_iff_iff]; simp [letterB]
theorem wN {n : Nat} (h : (bif false then !(withE n 1 12) else !!(withE n 1 12)) = true) : (0 : Int) < n := by
 simp only [cond_false, Bool.not_not, withE, Bool.and_eq_true, decide_eq_true_eq] at h; omega
theorem wN2 {n : Nat} {b : Bool} (h : (bif false then !(withE n 1 12) || b else !(!(withE n 1 12) || b)) = true) : (0 : Int) < n := by
 simp only [cond_false, Bool.not_or, Bool.not_not, withE, Bool.and_eq_true, decide_eq_true_eq] at h; omega
def headBad (s : Str) : Bool := !(withE s.length 1 12) || decide (((s.getD 0 0).toNat : Int) < 97) || decide (122 < ((s.getD 0 0).toNat : Int))
theorem vn_eq (s : Str) : validName s = ((!(headBad s) && s.all fun c => nameB c.toNat) && !(rsvWords.any fun x => s == x)) := by
 rw [validName, nmB_bs]
 congr 1
 cases s with
 | nil => rfl
 | cons c r =>
  rw [lettersB_eq (by simp), letterB_eq]
  generalize ((c :: r).all fun c => nameB c.toNat) = A
  simp only [headBad, withE, List.isEmpty_cons, List.length_cons, List.getD_cons_zero]
  rw [Bool.eq_iff_iff]
  simp
  cases A <;> simp <;> omega
theorem nm4 {c : Nat} : (!(decide (97 ≤ (c : Int)) && decide ((c : Int) ≤ 122)) && !(decide (48 ≤ (c : Int)) && decide ((c : Int) ≤ 57)) && (c : Int) != 95) = !(nameB c) := by
 rw [nameB_eq, Bool.eq_iff_iff]; simp; omega
theorem S.r02_ValidName (s : Str) : SpecZ Tryz.prog F.r02_ValidName [.str s] (.bool (validName s)) := by
 refine SpecZ.of Bd.r02_ValidName (by simp) rfl rfl ?_
 conv => whnf
 refine CallZ.pure (S.r02_within s.length 1 12) rfl ?_
 conv => whnf
 conv => whnf
 repeat (refine VC.mk (by first | (first | exact fun q => ⟨q, by omega, wN q⟩ | exact fun q => ⟨q, by omega, wN2 q⟩) | exact fun h => h | (intro h; rw [h]; rfl)) ?_; conv => whnf)
 refine ⟨fun h1 => ?_, fun h1 => ?_⟩
 ·conv => whnf
  exact EndZ.bool (by rw [vn_eq, show headBad s = true from h1]; rfl)
 have hs : s.length < 2^40 := by
  have h1' : headBad s = false := h1
  simp only [headBad, withE, Bool.or_eq_false_iff, Bool.not_eq_false', Bool.and_eq_true, decide_eq_true_eq] at h1'
  omega
 conv => whnf
 refine LoopZ.same [0] (fun i : Nat => [(3, .int i)]) (fun i => i ≤ s.length ∧ (s.take i).all (fun c => nameB c.toNat) = true) (fun i => s.length - i) 0 rfl (by decide) rfl (fun _ => rfl) ⟨by omega, by simp⟩ ⟨⟨_, rfl, rfl⟩, trivial⟩ ?_
 conv => whnf
 refine ⟨rfl, ?_⟩
 rintro i ⟨hi, hall⟩
 conv => whnf
 refine ⟨fun h3 => ?_, fun h3 => ?_⟩
 ·have hi' : i < s.length := by simpa using h3
  conv => whnf
  repeat (refine VC.mk (by first | exact fun h => h | (omega) | (intro h; simp_all; done)) ?_; conv => whnf)
  refine ⟨fun h4 => ?_, fun h4 => ?_⟩
  ·conv => whnf
   have h4' : nameB (s.getD i 0).toNat = false := by
    rw [nm4] at h4; simpa using h4
   exact EndZ.bool (by rw [vn_eq, all_of_get (d := 0) hi' h4', Bool.and_false]; rfl)
  ·conv => whnf
   refine .mk (by simp only [okI, Rw.rng] at *; omega) ?_
   conv => whnf
   refine ⟨i + 1, ⟨by omega, ?_⟩, by omega, ⟨⟨_, rfl, rfl⟩, trivial⟩, ?_, rfl⟩
   ·rw [all_take1 (d := 0) hi' hall]
    rw [nm4] at h4; simpa using h4
   ·repeat' (first | exact trivial | exact ⟨_, rfl, rfl⟩ | constructor)
 ·have hi' : s.length ≤ i := by simpa using h3
  rw [List.take_of_length_le hi'] at hall
  conv => whnf
  refine CallZ.pure (S.r02_reserved) rfl ?_
  conv => whnf
  refine CallZ.pure (S.r02_HasText rsvWords s false (by rw [rsv_len]; decide)) rfl ?_
  conv => whnf
  exact EndZ.bool (by rw [vn_eq, show headBad s = false from h1, hall]; rfl)
theorem S.r02_Set (l : List Int) (n : Int) (f : Bool) (hl : l.length < 2^40) (hn : -2^40 < n ∧ n < 2^40) : SpecZ Tryz.prog F.r02_Set [.row 0 f (.ints l), .int n] (.int (setE l n)) := by
 refine SpecZ.of Bd.r02_Set (by simp) rfl rfl ?_
 conv => whnf
 refine LoopZ.same [0, 1] (fun i : Nat => [(5, .int i)]) (fun i => i ≤ l.length ∧ (l.take i).any (fun i => outE i n) = false) (fun i => l.length - i) 0 rfl (by decide) rfl (fun _ => rfl) ⟨by omega, by simp⟩ ⟨⟨_, rfl, rfl⟩, trivial⟩ ?_
 conv => whnf
 refine ⟨rfl, ?_⟩
 rintro i ⟨hi, hall⟩
 conv => whnf
 refine ⟨fun h3 => ?_, fun h3 => ?_⟩
 ·have hi' : i < l.length := by simpa using h3
  conv => whnf
  repeat (refine VC.mk (by simp only [okI, Rw.rng] at *; omega) ?_; conv => whnf)
  refine CallZ.pure (S.r02_within (l.getD i 0) 0 (n - 1)) rfl ?_
  conv => whnf
  refine ⟨fun h4 => ?_, fun h4 => ?_⟩
  ·have h4' : outE (l.getD i 0) n = true := by
    have : (!withE (l.getD i 0) 0 (n - 1)) = true := h4
    rw [withE_out, Bool.not_not] at this; exact this
   conv => whnf
   refine EndZ.int ?_
   rw [setE, any_of_get (d := 0) hi' h4']; rfl
  ·have h4' : outE (l.getD i 0) n = false := by
    have : (!withE (l.getD i 0) 0 (n - 1)) = false := h4
    rw [withE_out, Bool.not_not] at this; exact this
   conv => whnf
   refine .mk (by simp only [okI, Rw.rng] at *; omega) ?_
   conv => whnf
   refine ⟨i + 1, ⟨by omega, ?_⟩, by omega, ⟨⟨_, rfl, rfl⟩, trivial⟩, ?_, rfl⟩
   ·rw [any_take (d := 0) hi' hall]; exact h4'
   ·repeat' (first | exact trivial | exact ⟨_, rfl, rfl⟩ | constructor)
 ·have hi' : l.length ≤ i := by simpa using h3
  rw [List.take_of_length_le hi'] at hall
  conv => whnf
  refine LoopZ.same [0] (fun i : Nat => [(6, .int (i + 1))]) (fun i => (i < l.length ∨ i = 0) ∧ incE l = incE (l.drop i)) (fun i => l.length - i) 0 rfl (by decide) rfl (fun _ => rfl) ⟨by omega, by simp⟩ ⟨⟨_, rfl, rfl⟩, trivial⟩ ?_
  conv => whnf
  refine ⟨rfl, ?_⟩
  rintro i ⟨hi, hinc⟩
  conv => whnf
  refine ⟨fun h5 => ?_, fun h5 => ?_⟩
  ·have hi1 : i + 1 < l.length := by have := of_decide_eq_true h5; omega
   rw [drop_getD 0 (show i < l.length by omega), drop_getD 0 hi1] at hinc
   simp only [incE] at hinc
   rw [← drop_getD 0 hi1] at hinc
   conv => whnf
   repeat (refine VC.mk (by simp only [okI, Rw.rng] at *; omega) ?_; conv => whnf)
   refine ⟨fun h6 => ?_, fun h6 => ?_⟩
   ·have e1 : ((i : Int) + 1).toNat = i + 1 := by omega
    have e2 : ((i : Int) + 1 - 1).toNat = i := by omega
    rw [e1, e2] at h6
    have h6' : l.getD (i + 1) 0 ≤ l.getD i 0 := of_decide_eq_true h6
    conv => whnf
    refine EndZ.int ?_
    rw [setE, hall, hinc, decide_eq_false (by omega)]; rfl
   ·have e1 : ((i : Int) + 1).toNat = i + 1 := by omega
    have e2 : ((i : Int) + 1 - 1).toNat = i := by omega
    rw [e1, e2] at h6
    have h6' : ¬ l.getD (i + 1) 0 ≤ l.getD i 0 := of_decide_eq_false h6
    conv => whnf
    refine .mk (by simp only [okI, Rw.rng] at *; omega) ?_
    conv => whnf
    rw [decide_eq_true (by omega), Bool.true_and] at hinc
    refine ⟨i + 1, ⟨by omega, hinc⟩, by omega, ⟨⟨_, rfl, rfl⟩, trivial⟩, ?_, rfl⟩
    repeat' (first | exact trivial | exact ⟨_, rfl, rfl⟩ | constructor)
  ·conv => whnf
   refine EndZ.int ?_
   have h5' : ¬ ((i : Int) + 1 < l.length) := of_decide_eq_false h5
   have : incE l = true := by
    rw [hinc]
    rcases hd : l.drop i with _ | ⟨a, _ | ⟨b, r⟩⟩
    ·rfl
    ·rfl
    ·have := congrArg List.length hd
     simp only [List.length_drop, List.length_cons] at this
     omega
   rw [setE, hall, this]; rfl
theorem S.r02_unused (p : Prot) (r : Rule) : SpecZ Tryz.prog F.r02_unused [.dat (.prot p), .dat (.rule r)] (.bool (unusedE r p.topology)) := by
 refine SpecZ.of Bd.r02_unused (by simp) rfl rfl ?_
 conv => whnf
 repeat (refine VC.mk (by first | exact fun h => h | (intro h; simp_all; done)) ?_; conv => whnf)
 refine ⟨fun h1 => ?_, fun h1 => ?_⟩
 ·conv => whnf
  exact EndZ.bool (by rw [unusedE]; erw [h1]; rfl)
 conv => whnf
 repeat (refine VC.mk (by first | exact fun h => h | (intro h; simp_all; done)) ?_; conv => whnf)
 refine ⟨fun h2 => ?_, fun h2 => ?_⟩
 ·conv => whnf
  exact EndZ.bool (by rw [unusedE]; erw [h1, h2]; rfl)
 conv => whnf
 repeat (refine VC.mk (by first | exact fun h => h | (intro h; simp_all; done)) ?_; conv => whnf)
 refine ⟨fun h3 => ?_, fun h3 => ?_⟩
 ·conv => whnf
  exact EndZ.bool (by rw [unusedE]; erw [h1, h2, h3]; rfl)
 conv => whnf
 repeat (refine VC.mk (by first | exact fun h => h | (intro h; rw [h]; rfl) | (intro h; simp_all; done)) ?_; conv => whnf)
 refine ⟨fun h4 => ?_, fun h4 => ?_⟩
 ·conv => whnf
  exact EndZ.bool (by rw [unusedE]; erw [h1, h2, h3, h4]; rfl)
 conv => whnf
 repeat (refine VC.mk (by first | exact fun h => h | (intro h; simp_all; done)) ?_; conv => whnf)
 refine ⟨fun h5 => ?_, fun h5 => ?_⟩
 ·conv => whnf
  exact EndZ.bool (by rw [unusedE]; erw [h1, h2, h3, h4, h5]; rfl)
 conv => whnf
 repeat (refine VC.mk (by first | exact fun h => h | (intro h; simp_all; done)) ?_; conv => whnf)
 exact EndZ.bool (by rw [unusedE]; erw [h1, h2, h3, h4, h5]; rfl)
theorem same_thr (a b : Thr) : ((a.message == b.message) && (a.coef == b.coef) && (a.bound == b.bound)) = (b == a) := by
 obtain ⟨m, c, l⟩ := a
 obtain ⟨m', c', l'⟩ := b
 rw [Bool.eq_iff_iff]
 simp only [Bool.and_eq_true, beq_iff_eq, Thr.mk.injEq]
 constructor
 ·rintro ⟨⟨h1, h2⟩, h3⟩; exact ⟨h1.symm, h2.symm, h3.symm⟩
 ·rintro ⟨h1, h2, h3⟩; exact ⟨⟨h1.symm, h2.symm⟩, h3.symm⟩
theorem S.r02_SameThreshold (a b : Thr) : SpecZ Tryz.prog F.r02_SameThreshold [.dat (.thr a), .dat (.thr b)] (.bool (b == a)) := by
 refine SpecZ.of Bd.r02_SameThreshold (by simp) rfl rfl ?_
 conv => whnf
 repeat (refine VC.mk (by first | exact fun h => h | exact fun h => ⟨h, h⟩) ?_; conv => whnf)
 exact EndZ.bool (same_thr a b).symm
theorem S.r02_ThresholdIndex (l : List Thr) (g : Thr) (f : Bool) (hl : l.length < 2^40) : SpecZ Tryz.prog F.r02_ThresholdIndex [.row 7 f (.thrs l), .dat (.thr g)] (.int (findT g l 0)) := by
 refine SpecZ.of Bd.r02_ThresholdIndex (by simp) rfl rfl ?_
 conv => whnf
 refine LoopZ.same [0, 3] (fun i : Nat => [(5, .int i)]) (fun i => i ≤ l.length ∧ findT g l 0 = findT g (l.drop i) i) (fun i => l.length - i) 0 rfl (by decide) rfl (fun _ => rfl) ⟨by omega, by simp⟩ ⟨⟨_, rfl, rfl⟩, trivial⟩ ?_
 conv => whnf
 refine ⟨rfl, ?_⟩
 rintro i ⟨hi, hall⟩
 conv => whnf
 refine ⟨fun h3 => ?_, fun h3 => ?_⟩
 ·have hi' : i < l.length := by simpa using h3
  rw [drop_getD default hi'] at hall
  simp only [findT] at hall
  conv => whnf
  refine .mk (by simp only [okI, Rw.rng] at *; first | omega | (simp_all; done) | (simp_all; omega)) ?_
  conv => whnf
  refine CallZ.pure (S.r02_SameThreshold (l.getD i default) g) rfl ?_
  conv => whnf
  refine ⟨fun h4 => ?_, fun h4 => ?_⟩
  ·conv => whnf
   refine EndZ.int ?_
   have h4' : (g == l.getD i default) = true := h4
   rw [hall, h4']; rfl
  ·conv => whnf
   refine .mk (by simp only [okI, Rw.rng] at *; first | omega | (simp_all; done) | (simp_all; omega)) ?_
   conv => whnf
   refine ⟨i + 1, ⟨by omega, ?_⟩, by omega, ⟨⟨_, rfl, rfl⟩, trivial⟩, ?_, rfl⟩
   ·have h4' : (g == l.getD i default) = false := h4
    rw [hall, h4']; rfl
   ·repeat' (first | exact trivial | exact ⟨_, rfl, rfl⟩ | constructor)
 ·conv => whnf
  refine EndZ.int ?_
  have hi' : l.length ≤ i := by simpa using h3
  rw [hall, List.drop_eq_nil_of_le hi']; rfl
theorem findT_lt {g : Thr} {l : List Thr} : decide (findT g l 0 < 0) = !(l.any fun x => g == x) := by
 rw [← findT_ge (i := 0), Bool.eq_iff_iff]; simp
theorem S.r02_distinct (p : Prot) (hp : SmallP p) : SpecZ Tryz.prog F.r02_distinct [.dat (.prot p)] (.row 7 false (.thrs (distT p.rules))) := by
 have hp1 := hp.rules
 refine SpecZ.of Bd.r02_distinct (by simp) rfl rfl ?_
 conv => whnf
 refine LoopZ.nil 3 Y.api_Threshold 7 (by rfl) rfl rfl rfl ?_
 refine LoopZ.objs 2 [1] (fun i : Nat => [(4, .int i), (3, .own 1)]) (fun i => [(0, .box Y.api_Protocol 11 (.dat (.prot p))), (1, rowT (distT (p.rules.take i)))]) (fun i => i ≤ p.rules.length) (fun i => p.rules.length - i) 0 [0, 4] rfl (by decide) (fun _ => rfl) (Nat.zero_le _) ?_ ?_ ?_
 ·exact ⟨⟨_, rfl, .eq rfl⟩, ⟨_, rfl, .eq rfl⟩, trivial⟩
 ·exact ⟨⟨rfl, nofun, rfl, rfl, rfl, _, rfl, rfl, rfl, SubA.of_eq rfl⟩, ⟨rfl, nofun, rfl, rfl, rfl, _, rfl, rfl, rfl, SubA.of_eq rfl⟩, trivial⟩
 conv => whnf
 refine ⟨⟨⟨_, rfl, .eq rfl⟩, trivial⟩, rfl, ?_⟩
 rintro i hi
 conv => whnf
 refine ⟨fun h3 => ?_, fun h3 => ?_⟩
 ·have hi' : i < p.rules.length := by simpa using h3
  conv => whnf
  refine LoopZ.objs 2 [1, 4] (fun k : Nat => [(5, .int k), (3, .own 1)]) (fun k => [(0, .box Y.api_Protocol 11 (.dat (.prot p))), (1, rowT (accT p i k))]) (fun k => k ≤ (p.rules.getD i default).guards.length) (fun k => (p.rules.getD i default).guards.length - k) 0 [0, 1] rfl (by decide) (fun _ => rfl) (Nat.zero_le _) ?_ ?_ ?_
  ·exact ⟨⟨_, rfl, .eq rfl⟩, ⟨_, rfl, .eq rfl⟩, trivial⟩
  ·exact ⟨⟨rfl, nofun, rfl, rfl, rfl, _, rfl, rfl, rfl, SubA.of_eq rfl⟩, ⟨rfl, nofun, rfl, rfl, rfl, _, rfl, rfl, rfl, SubA.of_eq rfl⟩, trivial⟩
  conv => whnf
  refine ⟨⟨⟨_, rfl, .eq rfl⟩, ⟨_, rfl, .eq rfl⟩, trivial⟩, rfl, ?_⟩
  rintro k hk
  have hacc := accT_len p hp i k hi'
  have hg := (hp.rule i).guards
  conv => whnf
  refine .mk (by simp only [okI, Rw.rng] at *; first | omega | (simp_all; done) | (simp_all; omega)) ?_
  conv => whnf
  refine ⟨fun h4 => ?_, fun h4 => ?_⟩
  ·have hk' : k < (p.rules.getD i default).guards.length := by simpa using h4
   have hst : accT p i (k + 1) = addT (accT p i k) ((p.rules.getD i default).guards.getD k default) := foldl_tk hk'
   conv => whnf
   repeat (refine VC.mk (by simp only [okI, Rw.rng] at *; first | omega | (simp_all; done) | (simp_all; omega)) ?_; conv => whnf)
   refine CallZ.lend (S.r02_ThresholdIndex (accT p i k) ((p.rules.getD i default).guards.getD k default) false (by omega)) (And.intro (lendT trivial rfl) (And.intro (sub_refl _) trivial)) rfl rfl ?_
   conv => whnf
   refine ⟨fun h5 => ?_, fun h5 => ?_⟩
   ·conv => whnf
    repeat (refine VC.mk (by first | (show ((accT p i k).length + (0 + 1)) * 48 ≤ 140737488355328 ∧ (accT p i k).length + (0 + 1) ≤ 1152921504606846976; omega) | (simp only [okI, Rw.rng] at *; first | omega | (simp_all; done) | (simp_all; omega))) ?_; conv => whnf)
    have h5' : ((accT p i k).any fun x => (p.rules.getD i default).guards.getD k default == x) = false := by rw [findT_lt] at h5; simpa using h5
    refine ⟨k + 1, [0, 29], by omega, by omega, ⟨⟨_, rfl, .eq rfl⟩, ⟨_, rfl, .eq rfl⟩, trivial⟩, ⟨⟨_, rfl, .eq rfl⟩, ⟨_, rfl, .eq rfl⟩, trivial⟩, ⟨rfl, nofun, rfl, rfl, rfl, _, rfl, rfl, rfl, SubA.of_eq rfl⟩, ⟨rfl, nofun, rfl, rfl, rfl, _, rfl, rfl, rfl, SubA.of_eq ?_⟩, trivial⟩
    rw [hst, addT, h5']; rfl
   ·conv => whnf
    refine .mk (by simp only [okI, Rw.rng] at *; first | omega | (simp_all; done) | (simp_all; omega)) ?_
    conv => whnf
    have h5' : ((accT p i k).any fun x => (p.rules.getD i default).guards.getD k default == x) = true := by rw [findT_lt] at h5; simpa using h5
    refine ⟨k + 1, [0, 1], by omega, by omega, ⟨⟨_, rfl, .eq rfl⟩, ⟨_, rfl, .eq rfl⟩, trivial⟩, ⟨⟨_, rfl, .eq rfl⟩, ⟨_, rfl, .eq rfl⟩, trivial⟩, ⟨rfl, nofun, rfl, rfl, rfl, _, rfl, rfl, rfl, SubA.of_eq rfl⟩, ⟨rfl, nofun, rfl, rfl, rfl, _, rfl, rfl, rfl, SubA.of_eq ?_⟩, trivial⟩
    rw [hst, addT, h5']; rfl
  ·have hk' : (p.rules.getD i default).guards.length ≤ k := by simpa using h4
   have e : k = (p.rules.getD i default).guards.length := Nat.le_antisymm hk hk'
   subst e
   conv => whnf
   refine .mk (by simp only [okI, Rw.rng] at *; first | omega | (simp_all; done) | (simp_all; omega)) ?_
   conv => whnf
   refine ⟨i + 1, [0, 1], by omega, by omega, ⟨⟨_, rfl, .eq rfl⟩, ⟨_, rfl, .eq rfl⟩, trivial⟩, ⟨⟨_, rfl, .eq rfl⟩, trivial⟩, ⟨rfl, nofun, rfl, rfl, rfl, _, rfl, rfl, rfl, SubA.of_eq rfl⟩, ⟨rfl, nofun, rfl, rfl, rfl, _, rfl, rfl, rfl, SubA.of_eq ?_⟩, trivial⟩
   rw [accT_full p hi']
 ·have hi' : p.rules.length ≤ i := by simpa using h3
  rw [List.take_of_length_le hi']
  conv => whnf
  exact EndZ.ownT rfl
def valsR (p : Prot) (r : Rule) : Bool := (r.read != -1 && !(withE r.read 0 (p.values.length - 1))) || (r.write != -1 && !(withE r.write 0 (p.values.length - 1)))
def mis4 (p : Prot) (r : Rule) : Bool := (r.kind == 4) && (!(withE r.pos 0 2) || (r.pos != 0 && p.topology == 3))
def dirT (p : Prot) (r : Rule) : Bool := ((r.kind == 5) && (p.topology == 4)) && !(withE r.direction 3 4)
def dirN (p : Prot) (r : Rule) : Bool := ((r.kind == 5) && (p.topology != 4)) && !(withE r.direction 1 2)
def tailR (p : Prot) (r : Rule) : Int :=
 let n : Int := p.states.length
 firstE [guardsL p r.guards, whenE (decide ((r.guards.length : Int) > 2)) 4, setE r.ex n, setE r.all n, whenE (valsR p r) 5, setE r.send p.messages.length, setE r.left n, setE r.right n, setE r.parent n, whenE (mis4 p r) 1, whenE (dirT p r) 1, whenE (dirN p r) 1]
def endsR (p : Prot) (r : Rule) : Bool :=
 let n : Int := p.states.length
 (!(withE r.fr 0 (n - 1)) || !(withE r.to 0 (n - 1))) || ((r.kind == 2 || r.kind == 5) && (!(withE r.pfrom 0 (n - 1)) || !(withE r.pto 0 (n - 1))))
def kindR (p : Prot) (r : Rule) : Bool := (!(withE r.kind 1 5) || (decide (r.kind ≤ 3) != (p.topology == 1))) || unusedE r p.topology
def ruleR (p : Prot) (i : Nat) : Int :=
 let r := p.rules.getD i default
 bif !(validName r.name) then 2 else bif (p.rules.take i).any (fun x => x.name == r.name) then 2 else bif kindR p r then 6 else bif endsR p r then 5 else
 bif r.kind == 3 then (bif (r.response.length : Int) != p.states.length then 1 else bif rangeE r.response p.states.length != 0 then rangeE r.response p.states.length else tailR p r) else tailR p r
theorem withE_not {n lo hi : Int} : (!(withE n lo hi)) = (decide (n < lo) || decide (n > hi)) := by
 unfold withE; rw [Bool.eq_iff_iff]; simp
theorem eqz' {a b : Int} (h : (a != b) = false) : a = b := by simpa using h
theorem f00 {v : Int} {r : List Int} : firstE (whenE false v :: r) = firstE r := rfl
theorem f0 {r : List Int} : firstE (0 :: r) = firstE r := rfl
theorem fN {x : Int} {r : List Int} (h : x ≠ 0) : firstE (x :: r) = x := if_neg h
set_option maxHeartbeats 1000000 in
theorem S.r02_rule (p : Prot) (i : Nat) (hi : i < p.rules.length) (hp : SmallP p) : SpecZ Tryz.prog F.r02_rule [.dat (.prot p), .int i] (.int (ruleR p i)) := by
 have hr := hp.rule i
 have hp1 := hp.rules
 have hp2 := hp.states
 have hp3 := hp.messages
 have hp4 := hp.values
 refine SpecZ.of Bd.r02_rule (by simp) rfl rfl ?_
 conv => whnf
 refine .mk (by simp only [okI, Rw.rng] at *; first | omega | (simp_all; done) | (simp_all; omega)) ?_
 conv => whnf
 refine CallZ.pure (S.r02_ValidName (p.rules.getD i default).name) rfl ?_
 conv => whnf
 refine ⟨fun h1 => ?_, fun h1 => ?_⟩
 ·conv => whnf
  exact EndZ.int (by rw [ruleR, h1]; rfl)
 conv => whnf
 refine LoopZ.same [1, 2, 5, 6] (fun j : Nat => [(7, .int j)]) (fun j => j ≤ i ∧ (p.rules.take j).any (fun x => x.name == (p.rules.getD i default).name) = false) (fun j => i - j) 0 rfl (by decide) rfl (fun _ => rfl) ⟨by omega, by simp⟩ ⟨⟨_, rfl, rfl⟩, trivial⟩ ?_
 conv => whnf
 refine ⟨rfl, ?_⟩
 rintro j ⟨hj, hall⟩
 conv => whnf
 refine ⟨fun h2 => ?_, fun h2 => ?_⟩
 ·have hj' : j < i := by simpa using h2
  have hj2 : j < p.rules.length := by omega
  conv => whnf
  refine .mk (by simp only [okI, Rw.rng] at *; first | omega | (simp_all; done) | (simp_all; omega)) ?_
  conv => whnf
  refine ⟨fun h3 => ?_, fun h3 => ?_⟩
  ·conv => whnf
   have hb : (p.rules.take i).any (fun x => x.name == (p.rules.getD i default).name) = true := by
    rw [List.any_eq_true]
    refine ⟨p.rules.getD j default, ?_, h3⟩
    rw [show p.rules.getD j default = p.rules[j] by simp [hj2], List.mem_take_iff_getElem]
    exact ⟨j, by omega, rfl⟩
   exact EndZ.int (by rw [ruleR, h1, hb]; rfl)
  ·conv => whnf
   refine .mk (by simp only [okI, Rw.rng] at *; first | omega | (simp_all; done) | (simp_all; omega)) ?_
   conv => whnf
   refine ⟨j + 1, ⟨by omega, ?_⟩, by omega, ⟨⟨_, rfl, rfl⟩, trivial⟩, ?_, rfl⟩
   ·rw [any_take (d := default) hj2 hall]; exact h3
   ·repeat' (first | exact trivial | exact ⟨_, rfl, rfl⟩ | constructor)
 have hj' : i ≤ j := by simpa using h2
 have e : i = j := Nat.le_antisymm hj' hj
 subst e
 conv => whnf
 refine CallZ.pure (S.r02_within (p.rules.getD i default).kind 1 5) rfl ?_
 conv => whnf
 repeat (refine VC.mk (by first | exact fun h => h | exact fun h => ⟨h, h⟩ | (intro h; rw [h]; rfl)) ?_; conv => whnf)
 refine CallZ.pureG (fun _ => S.r02_unused p (p.rules.getD i default)) rfl ?_
 conv => whnf
 refine .mk (by intro h; rw [h]; rfl) ?_
 conv => whnf
 refine ⟨fun h4 => ?_, fun h4 => ?_⟩
 ·conv => whnf
  exact EndZ.int (by rw [ruleR, h1, hall, show kindR p (p.rules.getD i default) = true from h4]; rfl)
 conv => whnf
 repeat (refine VC.mk (by first | exact fun h => h | (intro h; rw [h]; rfl) | (simp only [okI, Rw.rng] at *; first | omega | (simp_all; done) | (simp_all; omega))) ?_; conv => whnf)
 refine CallZ.pure (S.r02_within (p.rules.getD i default).fr 0 (p.states.length - 1)) rfl ?_
 conv => whnf
 repeat (refine VC.mk (by first | exact fun h => h | exact fun h => ⟨h, h⟩ | (intro h; (repeat' apply And.intro) <;> first | exact h | omega | (simp only [Rw.rngE]; omega) | (simp only [Rw.rng]; omega))) ?_; conv => whnf)
 refine CallZ.pureG (fun _ => S.r02_within (p.rules.getD i default).to 0 (p.states.length - 1)) rfl ?_
 conv => whnf
 repeat (refine VC.mk (by first | exact fun h => h | exact fun h => ⟨h, h⟩ | (intro h; rw [h]; rfl) | (intro h; (repeat' apply And.intro) <;> first | exact h | omega | (simp only [Rw.rngE]; omega) | (simp only [Rw.rng]; omega))) ?_; conv => whnf)
 refine CallZ.pureG (fun _ => S.r02_within (p.rules.getD i default).pfrom 0 (p.states.length - 1)) rfl ?_
 conv => whnf
 repeat (refine VC.mk (by first | exact fun h => h | exact fun h => ⟨h, h⟩ | (intro h; (repeat' apply And.intro) <;> first | exact h | omega | (simp only [Rw.rngE]; omega) | (simp only [Rw.rng]; omega))) ?_; conv => whnf)
 refine CallZ.pureG (fun _ => S.r02_within (p.rules.getD i default).pto 0 (p.states.length - 1)) rfl ?_
 conv => whnf
 repeat (refine VC.mk (by first | exact fun h => h | (intro h; rw [h]; rfl) | (intro h; simp_all; done)) ?_; conv => whnf)
 refine ⟨fun h5 => ?_, fun h5 => ?_⟩
 ·conv => whnf
  exact EndZ.int (by rw [ruleR, h1, hall, show kindR p (p.rules.getD i default) = false from h4, show endsR p (p.rules.getD i default) = true from h5]; rfl)
 conv => whnf
 refine ⟨fun h6 => ?_, fun h6 => ?_⟩
 ·replace h6 : ((p.rules.getD i default).kind == 3) = true := h6
  conv => whnf
  refine ⟨fun h7 => ?_, fun h7 => ?_⟩
  ·replace h7 : (((p.rules.getD i default).response.length : Int) != p.states.length) = true := h7
   conv => whnf
   exact EndZ.int (by rw [ruleR, h1, hall, show kindR p (p.rules.getD i default) = false from h4, show endsR p (p.rules.getD i default) = false from h5, h6, h7]; rfl)
  replace h7 : (((p.rules.getD i default).response.length : Int) != p.states.length) = false := h7
  have hn : (p.rules.getD i default).response.length = p.states.length := by
   have : ((p.rules.getD i default).response.length : Int) = p.states.length := eqz' h7
   omega
  conv => whnf
  refine LoopZ.same [2, 5, 6] (fun k : Nat => [(9, .int k)]) (fun k => k ≤ p.states.length ∧ rangeE (p.rules.getD i default).response p.states.length = rangeE ((p.rules.getD i default).response.drop k) p.states.length) (fun k => p.states.length - k) 0 rfl (by decide) rfl (fun _ => rfl) ⟨by omega, by simp⟩ ⟨⟨_, rfl, rfl⟩, trivial⟩ ?_
  conv => whnf
  refine ⟨rfl, ?_⟩
  rintro k ⟨hk, hg⟩
  conv => whnf
  refine ⟨fun g1 => ?_, fun g1 => ?_⟩
  ·have hk' : k < (p.rules.getD i default).response.length := by rw [hn]; simpa using g1
   rw [drop_getD 0 hk'] at hg
   simp only [rangeE] at hg
   conv => whnf
   repeat (refine VC.mk (by simp only [okI, Rw.rng] at *; first | omega | (simp_all; done) | (simp_all; omega)) ?_; conv => whnf)
   refine CallZ.pure (S.r02_within ((p.rules.getD i default).response.getD k 0) 0 (p.states.length - 1)) rfl ?_
   conv => whnf
   refine ⟨fun g2 => ?_, fun g2 => ?_⟩
   ·rw [withE_out, Bool.not_not] at g2
    have e : indexE ((p.rules.getD i default).response.getD k 0) p.states.length = 5 := by rw [indexE, g2]; rfl
    rw [e, if_neg (by decide)] at hg
    conv => whnf
    exact EndZ.int (by rw [ruleR, h1, hall, show kindR p (p.rules.getD i default) = false from h4, show endsR p (p.rules.getD i default) = false from h5, h6, h7, hg]; rfl)
   rw [withE_out, Bool.not_not] at g2
   have e : indexE ((p.rules.getD i default).response.getD k 0) p.states.length = 0 := by rw [indexE, g2]; rfl
   rw [if_pos e] at hg
   conv => whnf
   refine .mk (by simp only [okI, Rw.rng] at *; first | omega | (simp_all; done) | (simp_all; omega)) ?_
   conv => whnf
   refine ⟨k + 1, ⟨by omega, hg⟩, by omega, ⟨⟨_, rfl, rfl⟩, trivial⟩, ?_, rfl⟩
   repeat' (first | exact trivial | exact ⟨_, rfl, rfl⟩ | constructor)
  have hk' : (p.rules.getD i default).response.length ≤ k := by rw [hn]; simpa using g1
  rw [List.drop_eq_nil_of_le hk'] at hg
  replace hg : rangeE (p.rules.getD i default).response p.states.length = 0 := hg
  have hR : ruleR p i = tailR p (p.rules.getD i default) := by
   rw [ruleR, h1, hall, show kindR p (p.rules.getD i default) = false from h4, show endsR p (p.rules.getD i default) = false from h5, h6, h7, hg]; rfl
  clear hg g1 hk' hk
  conv => whnf
  refine LoopZ.same [2, 5, 6] (fun k : Nat => [(10, .int k)]) (fun k => k ≤ (p.rules.getD i default).guards.length ∧ guardsL p (p.rules.getD i default).guards = guardsL p ((p.rules.getD i default).guards.drop k)) (fun k => (p.rules.getD i default).guards.length - k) 0 rfl (by decide) rfl (fun _ => rfl) ⟨by omega, by simp⟩ ⟨⟨_, rfl, rfl⟩, trivial⟩ ?_
  conv => whnf
  refine ⟨rfl, ?_⟩
  rintro k ⟨hk, hg⟩
  have hgl := hr.guards
  conv => whnf
  refine ⟨fun g1 => ?_, fun g1 => ?_⟩
  ·have hk' : k < (p.rules.getD i default).guards.length := by simpa using g1
   rw [drop_getD default hk'] at hg
   simp only [guardsL] at hg
   conv => whnf
   repeat (refine VC.mk (by simp only [okI, Rw.rng] at *; first | omega | (simp_all; done) | (simp_all; omega)) ?_; conv => whnf)
   refine CallZ.pure (S.r02_within ((p.rules.getD i default).guards.getD k default).message 0 (p.messages.length - 1)) rfl ?_
   conv => whnf
   refine ⟨fun g2 => ?_, fun g2 => ?_⟩
   ·rw [withE_out, Bool.not_not] at g2
    have e : guardE p ((p.rules.getD i default).guards.getD k default) = 5 := by rw [guardE, indexE, g2]; rfl
    rw [e, if_neg (by decide)] at hg
    conv => whnf
    exact EndZ.int (by rw [hR, tailR, hg]; rfl)
   rw [withE_out, Bool.not_not] at g2
   conv => whnf
   refine CallZ.pure (S.r02_within ((p.rules.getD i default).guards.getD k default).coef 1 100) rfl ?_
   conv => whnf
   refine ⟨fun g3 => ?_, fun g3 => ?_⟩
   ·rw [withE_not] at g3
    have e : guardE p ((p.rules.getD i default).guards.getD k default) = 1 := by rw [guardE, indexE, g2, g3]; rfl
    rw [e, if_neg (by decide)] at hg
    conv => whnf
    exact EndZ.int (by rw [hR, tailR, hg]; rfl)
   rw [withE_not] at g3
   conv => whnf
   refine CallZ.pure (S.r02_few ((p.rules.getD i default).guards.getD k default).bound) rfl ?_
   conv => whnf
   refine ⟨fun g4 => ?_, fun g4 => ?_⟩
   ·have e : guardE p ((p.rules.getD i default).guards.getD k default) = 4 := by rw [guardE, indexE, g2, g3, g4]; rfl
    rw [e, if_neg (by decide)] at hg
    conv => whnf
    exact EndZ.int (by rw [hR, tailR, hg]; rfl)
   have e : guardE p ((p.rules.getD i default).guards.getD k default) = 0 := by rw [guardE, indexE, g2, g3, g4]; rfl
   rw [if_pos e] at hg
   conv => whnf
   refine .mk (by simp only [okI, Rw.rng] at *; first | omega | (simp_all; done) | (simp_all; omega)) ?_
   conv => whnf
   refine ⟨k + 1, ⟨by omega, hg⟩, by omega, ⟨⟨_, rfl, rfl⟩, trivial⟩, ?_, rfl⟩
   repeat' (first | exact trivial | exact ⟨_, rfl, rfl⟩ | constructor)
  have hk' : (p.rules.getD i default).guards.length ≤ k := by simpa using g1
  rw [List.drop_eq_nil_of_le hk'] at hg
  replace hg : guardsL p (p.rules.getD i default).guards = 0 := hg
  conv => whnf
  refine ⟨fun c1 => ?_, fun c1 => ?_⟩
  ·replace c1 : decide (((p.rules.getD i default).guards.length : Int) > 2) = true := c1
   conv => whnf
   exact EndZ.int (by rw [hR, tailR, hg, c1]; rfl)
  replace c1 : decide (((p.rules.getD i default).guards.length : Int) > 2) = false := c1
  conv => whnf
  refine CallZ.pure (S.r02_Set (p.rules.getD i default).ex p.states.length false (by have := hr.ex; omega) ⟨by omega, by omega⟩) rfl ?_
  conv => whnf
  refine ⟨fun c2 => ?_, fun c2 => ?_⟩
  ·conv => whnf
   exact EndZ.int (by rw [hR, tailR, hg, c1]; simp only [f00, f0, fN (nez c2)])
  replace c2 := eqz c2
  conv => whnf
  refine CallZ.pure (S.r02_Set (p.rules.getD i default).all p.states.length false (by have := hr.all; omega) ⟨by omega, by omega⟩) rfl ?_
  conv => whnf
  refine ⟨fun c3 => ?_, fun c3 => ?_⟩
  ·conv => whnf
   exact EndZ.int (by rw [hR, tailR, hg, c1, c2]; simp only [f00, f0, fN (nez c3)])
  replace c3 := eqz c3
  conv => whnf
  repeat (refine VC.mk (by first | exact fun h => h | exact fun h => ⟨h, h⟩ | (intro h; (repeat' apply And.intro) <;> first | exact h | omega | (simp only [Rw.rngE]; omega) | (simp only [Rw.rng]; omega))) ?_; conv => whnf)
  refine CallZ.pureG (fun _ => S.r02_within (p.rules.getD i default).read 0 (p.values.length - 1)) rfl ?_
  conv => whnf
  repeat (refine VC.mk (by first | exact fun h => h | exact fun h => ⟨h, h⟩ | (intro h; (repeat' apply And.intro) <;> first | exact h | omega | (simp only [Rw.rngE]; omega) | (simp only [Rw.rng]; omega))) ?_; conv => whnf)
  refine CallZ.pureG (fun _ => S.r02_within (p.rules.getD i default).write 0 (p.values.length - 1)) rfl ?_
  conv => whnf
  repeat (refine VC.mk (by first | exact fun h => h | (intro h; rw [h]; rfl) | (intro h; simp_all; done)) ?_; conv => whnf)
  refine ⟨fun c4 => ?_, fun c4 => ?_⟩
  ·conv => whnf
   exact EndZ.int (by rw [hR, tailR, hg, c1, c2, c3, show valsR p (p.rules.getD i default) = true from c4]; rfl)
  replace c4 : valsR p (p.rules.getD i default) = false := c4
  conv => whnf
  refine CallZ.pure (S.r02_Set (p.rules.getD i default).send p.messages.length false (by have := hr.send; omega) ⟨by omega, by omega⟩) rfl ?_
  conv => whnf
  refine ⟨fun c5 => ?_, fun c5 => ?_⟩
  ·conv => whnf
   exact EndZ.int (by rw [hR, tailR, hg, c1, c2, c3, c4]; simp only [f00, f0, fN (nez c5)])
  replace c5 := eqz c5
  conv => whnf
  refine CallZ.pure (S.r02_Set (p.rules.getD i default).left p.states.length false (by have := hr.left; omega) ⟨by omega, by omega⟩) rfl ?_
  conv => whnf
  refine ⟨fun c6 => ?_, fun c6 => ?_⟩
  ·conv => whnf
   exact EndZ.int (by rw [hR, tailR, hg, c1, c2, c3, c4, c5]; simp only [f00, f0, fN (nez c6)])
  replace c6 := eqz c6
  conv => whnf
  refine CallZ.pure (S.r02_Set (p.rules.getD i default).right p.states.length false (by have := hr.right; omega) ⟨by omega, by omega⟩) rfl ?_
  conv => whnf
  refine ⟨fun c7 => ?_, fun c7 => ?_⟩
  ·conv => whnf
   exact EndZ.int (by rw [hR, tailR, hg, c1, c2, c3, c4, c5, c6]; simp only [f00, f0, fN (nez c7)])
  replace c7 := eqz c7
  conv => whnf
  refine CallZ.pure (S.r02_Set (p.rules.getD i default).parent p.states.length false (by have := hr.parent; omega) ⟨by omega, by omega⟩) rfl ?_
  conv => whnf
  refine ⟨fun c8 => ?_, fun c8 => ?_⟩
  ·conv => whnf
   exact EndZ.int (by rw [hR, tailR, hg, c1, c2, c3, c4, c5, c6, c7]; simp only [f00, f0, fN (nez c8)])
  replace c8 := eqz c8
  conv => whnf
  repeat (refine VC.mk (by exact fun h => h) ?_; conv => whnf)
  refine CallZ.pureG (fun _ => S.r02_within (p.rules.getD i default).pos 0 2) rfl ?_
  conv => whnf
  repeat (refine VC.mk (by first | exact fun h => h | (intro h; simp_all; done)) ?_; conv => whnf)
  refine ⟨fun c9 => ?_, fun c9 => ?_⟩
  ·conv => whnf
   exact EndZ.int (by rw [hR, tailR, hg, c1, c2, c3, c4, c5, c6, c7, c8, show mis4 p (p.rules.getD i default) = true from c9]; rfl)
  replace c9 : mis4 p (p.rules.getD i default) = false := c9
  conv => whnf
  repeat (refine VC.mk (by exact fun h => h) ?_; conv => whnf)
  refine CallZ.pureG (fun _ => S.r02_within (p.rules.getD i default).direction 3 4) rfl ?_
  conv => whnf
  repeat (refine VC.mk (by exact fun h => h) ?_; conv => whnf)
  refine ⟨fun c10 => ?_, fun c10 => ?_⟩
  ·conv => whnf
   exact EndZ.int (by rw [hR, tailR, hg, c1, c2, c3, c4, c5, c6, c7, c8, c9, show dirT p (p.rules.getD i default) = true from c10]; rfl)
  replace c10 : dirT p (p.rules.getD i default) = false := c10
  conv => whnf
  repeat (refine VC.mk (by exact fun h => h) ?_; conv => whnf)
  refine CallZ.pureG (fun _ => S.r02_within (p.rules.getD i default).direction 1 2) rfl ?_
  conv => whnf
  repeat (refine VC.mk (by exact fun h => h) ?_; conv => whnf)
  refine ⟨fun c11 => ?_, fun c11 => ?_⟩
  ·conv => whnf
   exact EndZ.int (by rw [hR, tailR, hg, c1, c2, c3, c4, c5, c6, c7, c8, c9, c10, show dirN p (p.rules.getD i default) = true from c11]; rfl)
  replace c11 : dirN p (p.rules.getD i default) = false := c11
  conv => whnf
  exact EndZ.int (by rw [hR, tailR, hg, c1, c2, c3, c4, c5, c6, c7, c8, c9, c10, c11]; rfl)
 ·replace h6 : ((p.rules.getD i default).kind == 3) = false := h6
  have hR : ruleR p i = tailR p (p.rules.getD i default) := by
   rw [ruleR, h1, hall, show kindR p (p.rules.getD i default) = false from h4, show endsR p (p.rules.getD i default) = false from h5, h6]; rfl
  conv => whnf
  refine LoopZ.same [2, 5, 6] (fun k : Nat => [(10, .int k)]) (fun k => k ≤ (p.rules.getD i default).guards.length ∧ guardsL p (p.rules.getD i default).guards = guardsL p ((p.rules.getD i default).guards.drop k)) (fun k => (p.rules.getD i default).guards.length - k) 0 rfl (by decide) rfl (fun _ => rfl) ⟨by omega, by simp⟩ ⟨⟨_, rfl, rfl⟩, trivial⟩ ?_
  conv => whnf
  refine ⟨rfl, ?_⟩
  rintro k ⟨hk, hg⟩
  have hgl := hr.guards
  conv => whnf
  refine ⟨fun g1 => ?_, fun g1 => ?_⟩
  ·have hk' : k < (p.rules.getD i default).guards.length := by simpa using g1
   rw [drop_getD default hk'] at hg
   simp only [guardsL] at hg
   conv => whnf
   repeat (refine VC.mk (by simp only [okI, Rw.rng] at *; first | omega | (simp_all; done) | (simp_all; omega)) ?_; conv => whnf)
   refine CallZ.pure (S.r02_within ((p.rules.getD i default).guards.getD k default).message 0 (p.messages.length - 1)) rfl ?_
   conv => whnf
   refine ⟨fun g2 => ?_, fun g2 => ?_⟩
   ·rw [withE_out, Bool.not_not] at g2
    have e : guardE p ((p.rules.getD i default).guards.getD k default) = 5 := by rw [guardE, indexE, g2]; rfl
    rw [e, if_neg (by decide)] at hg
    conv => whnf
    exact EndZ.int (by rw [hR, tailR, hg]; rfl)
   rw [withE_out, Bool.not_not] at g2
   conv => whnf
   refine CallZ.pure (S.r02_within ((p.rules.getD i default).guards.getD k default).coef 1 100) rfl ?_
   conv => whnf
   refine ⟨fun g3 => ?_, fun g3 => ?_⟩
   ·rw [withE_not] at g3
    have e : guardE p ((p.rules.getD i default).guards.getD k default) = 1 := by rw [guardE, indexE, g2, g3]; rfl
    rw [e, if_neg (by decide)] at hg
    conv => whnf
    exact EndZ.int (by rw [hR, tailR, hg]; rfl)
   rw [withE_not] at g3
   conv => whnf
   refine CallZ.pure (S.r02_few ((p.rules.getD i default).guards.getD k default).bound) rfl ?_
   conv => whnf
   refine ⟨fun g4 => ?_, fun g4 => ?_⟩
   ·have e : guardE p ((p.rules.getD i default).guards.getD k default) = 4 := by rw [guardE, indexE, g2, g3, g4]; rfl
    rw [e, if_neg (by decide)] at hg
    conv => whnf
    exact EndZ.int (by rw [hR, tailR, hg]; rfl)
   have e : guardE p ((p.rules.getD i default).guards.getD k default) = 0 := by rw [guardE, indexE, g2, g3, g4]; rfl
   rw [if_pos e] at hg
   conv => whnf
   refine .mk (by simp only [okI, Rw.rng] at *; first | omega | (simp_all; done) | (simp_all; omega)) ?_
   conv => whnf
   refine ⟨k + 1, ⟨by omega, hg⟩, by omega, ⟨⟨_, rfl, rfl⟩, trivial⟩, ?_, rfl⟩
   repeat' (first | exact trivial | exact ⟨_, rfl, rfl⟩ | constructor)
  have hk' : (p.rules.getD i default).guards.length ≤ k := by simpa using g1
  rw [List.drop_eq_nil_of_le hk'] at hg
  replace hg : guardsL p (p.rules.getD i default).guards = 0 := hg
  conv => whnf
  refine ⟨fun c1 => ?_, fun c1 => ?_⟩
  ·replace c1 : decide (((p.rules.getD i default).guards.length : Int) > 2) = true := c1
   conv => whnf
   exact EndZ.int (by rw [hR, tailR, hg, c1]; rfl)
  replace c1 : decide (((p.rules.getD i default).guards.length : Int) > 2) = false := c1
  conv => whnf
  refine CallZ.pure (S.r02_Set (p.rules.getD i default).ex p.states.length false (by have := hr.ex; omega) ⟨by omega, by omega⟩) rfl ?_
  conv => whnf
  refine ⟨fun c2 => ?_, fun c2 => ?_⟩
  ·conv => whnf
   exact EndZ.int (by rw [hR, tailR, hg, c1]; simp only [f00, f0, fN (nez c2)])
  replace c2 := eqz c2
  conv => whnf
  refine CallZ.pure (S.r02_Set (p.rules.getD i default).all p.states.length false (by have := hr.all; omega) ⟨by omega, by omega⟩) rfl ?_
  conv => whnf
  refine ⟨fun c3 => ?_, fun c3 => ?_⟩
  ·conv => whnf
   exact EndZ.int (by rw [hR, tailR, hg, c1, c2]; simp only [f00, f0, fN (nez c3)])
  replace c3 := eqz c3
  conv => whnf
  repeat (refine VC.mk (by first | exact fun h => h | exact fun h => ⟨h, h⟩ | (intro h; (repeat' apply And.intro) <;> first | exact h | omega | (simp only [Rw.rngE]; omega) | (simp only [Rw.rng]; omega))) ?_; conv => whnf)
  refine CallZ.pureG (fun _ => S.r02_within (p.rules.getD i default).read 0 (p.values.length - 1)) rfl ?_
  conv => whnf
  repeat (refine VC.mk (by first | exact fun h => h | exact fun h => ⟨h, h⟩ | (intro h; (repeat' apply And.intro) <;> first | exact h | omega | (simp only [Rw.rngE]; omega) | (simp only [Rw.rng]; omega))) ?_; conv => whnf)
  refine CallZ.pureG (fun _ => S.r02_within (p.rules.getD i default).write 0 (p.values.length - 1)) rfl ?_
  conv => whnf
  repeat (refine VC.mk (by first | exact fun h => h | (intro h; rw [h]; rfl) | (intro h; simp_all; done)) ?_; conv => whnf)
  refine ⟨fun c4 => ?_, fun c4 => ?_⟩
  ·conv => whnf
   exact EndZ.int (by rw [hR, tailR, hg, c1, c2, c3, show valsR p (p.rules.getD i default) = true from c4]; rfl)
  replace c4 : valsR p (p.rules.getD i default) = false := c4
  conv => whnf
  refine CallZ.pure (S.r02_Set (p.rules.getD i default).send p.messages.length false (by have := hr.send; omega) ⟨by omega, by omega⟩) rfl ?_
  conv => whnf
  refine ⟨fun c5 => ?_, fun c5 => ?_⟩
  ·conv => whnf
   exact EndZ.int (by rw [hR, tailR, hg, c1, c2, c3, c4]; simp only [f00, f0, fN (nez c5)])
  replace c5 := eqz c5
  conv => whnf
  refine CallZ.pure (S.r02_Set (p.rules.getD i default).left p.states.length false (by have := hr.left; omega) ⟨by omega, by omega⟩) rfl ?_
  conv => whnf
  refine ⟨fun c6 => ?_, fun c6 => ?_⟩
  ·conv => whnf
   exact EndZ.int (by rw [hR, tailR, hg, c1, c2, c3, c4, c5]; simp only [f00, f0, fN (nez c6)])
  replace c6 := eqz c6
  conv => whnf
  refine CallZ.pure (S.r02_Set (p.rules.getD i default).right p.states.length false (by have := hr.right; omega) ⟨by omega, by omega⟩) rfl ?_
  conv => whnf
  refine ⟨fun c7 => ?_, fun c7 => ?_⟩
  ·conv => whnf
   exact EndZ.int (by rw [hR, tailR, hg, c1, c2, c3, c4, c5, c6]; simp only [f00, f0, fN (nez c7)])
  replace c7 := eqz c7
  conv => whnf
  refine CallZ.pure (S.r02_Set (p.rules.getD i default).parent p.states.length false (by have := hr.parent; omega) ⟨by omega, by omega⟩) rfl ?_
  conv => whnf
  refine ⟨fun c8 => ?_, fun c8 => ?_⟩
  ·conv => whnf
   exact EndZ.int (by rw [hR, tailR, hg, c1, c2, c3, c4, c5, c6, c7]; simp only [f00, f0, fN (nez c8)])
  replace c8 := eqz c8
  conv => whnf
  repeat (refine VC.mk (by exact fun h => h) ?_; conv => whnf)
  refine CallZ.pureG (fun _ => S.r02_within (p.rules.getD i default).pos 0 2) rfl ?_
  conv => whnf
  repeat (refine VC.mk (by first | exact fun h => h | (intro h; simp_all; done)) ?_; conv => whnf)
  refine ⟨fun c9 => ?_, fun c9 => ?_⟩
  ·conv => whnf
   exact EndZ.int (by rw [hR, tailR, hg, c1, c2, c3, c4, c5, c6, c7, c8, show mis4 p (p.rules.getD i default) = true from c9]; rfl)
  replace c9 : mis4 p (p.rules.getD i default) = false := c9
  conv => whnf
  repeat (refine VC.mk (by exact fun h => h) ?_; conv => whnf)
  refine CallZ.pureG (fun _ => S.r02_within (p.rules.getD i default).direction 3 4) rfl ?_
  conv => whnf
  repeat (refine VC.mk (by exact fun h => h) ?_; conv => whnf)
  refine ⟨fun c10 => ?_, fun c10 => ?_⟩
  ·conv => whnf
   exact EndZ.int (by rw [hR, tailR, hg, c1, c2, c3, c4, c5, c6, c7, c8, c9, show dirT p (p.rules.getD i default) = true from c10]; rfl)
  replace c10 : dirT p (p.rules.getD i default) = false := c10
  conv => whnf
  repeat (refine VC.mk (by exact fun h => h) ?_; conv => whnf)
  refine CallZ.pureG (fun _ => S.r02_within (p.rules.getD i default).direction 1 2) rfl ?_
  conv => whnf
  repeat (refine VC.mk (by exact fun h => h) ?_; conv => whnf)
  refine ⟨fun c11 => ?_, fun c11 => ?_⟩
  ·conv => whnf
   exact EndZ.int (by rw [hR, tailR, hg, c1, c2, c3, c4, c5, c6, c7, c8, c9, c10, show dirN p (p.rules.getD i default) = true from c11]; rfl)
  replace c11 : dirN p (p.rules.getD i default) = false := c11
  conv => whnf
  exact EndZ.int (by rw [hR, tailR, hg, c1, c2, c3, c4, c5, c6, c7, c8, c9, c10, c11]; rfl)
end Go.Proofs.YtgokbcjkbdabnaaGreatDoor
