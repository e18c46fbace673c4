/-
 A part of the proof. No condition.
-/
import Derived.Test.YtgokbcjkbdabnaaGreatDoorFa
import Derived.Test.YtgokbcjkbdabnaaGreatDoorGb
import Derived.Test.YtgokbcjkbdabnaaGreatDoorLg
namespace Go.Proofs.YtgokbcjkbdabnaaGreatDoor
open Go.Ab Go.Proofs
set_option maxRecDepth 100000
structure SmallQ (q : Prop') : Prop where
 start : q.start.length < 2^30
 bad : q.bad.length < 2^30
 adjacent : q.adjacent.length < 2^30
 goal : q.goal.length < 2^30
 cnt : ∀ i, (q.bad.getD i default).states.length < 2^30
def leastBad (c : Cnt) : Bool := ((c.states.length : Int) == 0 || decide (c.least < 1)) || decide (c.least > 3)
def cntE (n : Int) (c : Cnt) : Int := firstE [setE c.states n, whenE (leastBad c) 1]
def countsE (l : List Cnt) (n : Int) : Int := firstE (l.map (cntE n))
def adjE (p : Prot) (l : List Int) : Int := bif (l.length : Int) == 0 then 0 else bif p.topology == 1 then 6 else bif (l.length : Int) != 2 then 1 else firstE [indexE (l.getD 0 0) p.states.length, indexE (l.getD 1 0) p.states.length]
def goalBad (q : Prop') : Bool := ((q.kind == 1) && decide ((q.goal.length : Int) > 0)) || (!(q.kind == 1) && (decide ((q.bad.length : Int) > 0) || decide ((q.adjacent.length : Int) > 0)))
def propE (p : Prot) (q : Prop') : Int :=
 let n : Int := p.states.length
 bif validE p != 0 then validE p else bif !(validName q.name) then 2 else bif !(q.kind == 1) && q.kind != 2 then 1 else bif goalBad q then 1 else
 bif setE q.start n != 0 then setE q.start n else bif q.start.any (fun x => !(inI p.initial x)) then 5 else
 bif !(q.kind == 1) then firstE [setE q.goal n, whenE ((q.goal.length : Int) == 0) 1] else
 firstE [whenE (((q.bad.length : Int) == 0) && ((q.adjacent.length : Int) == 0)) 1, whenE (decide ((q.bad.length : Int) > 3)) 4, countsE q.bad n, adjE p q.adjacent]
theorem S.protocol_counts (l : List Cnt) (n : Int) (f : Bool) (hl : l.length < 2^30) (hs : ∀ i, (l.getD i default).states.length < 2^30) : SpecZ Tryz.prog F.protocol_counts [.row 3 f (.cnts l), .int n] (.int (countsE l n)) := by
 refine SpecZ.of Bd.protocol_counts (by simp) rfl rfl ?_
 conv => whnf
 refine LoopZ.same [1, 8, 9] (fun i : Nat => [(10, .int i)]) (fun i => i ≤ l.length ∧ countsE l n = firstE ((l.drop i).map (cntE n))) (fun i => l.length - i) 0 rfl (by decide) rfl (fun _ => rfl) ⟨by omega, by simp [countsE]⟩ ⟨⟨_, rfl, rfl⟩, trivial⟩ ?_
 conv => whnf
 refine ⟨rfl, ?_⟩
 rintro i ⟨hi, hall⟩
 conv => whnf
 refine ⟨fun h3 => ?_, fun h3 => ?_⟩
 ·have hi' : i < l.length := by simpa using h3
  rw [drop_getD default hi', List.map_cons] at hall
  simp only [firstE] at hall
  have hc := hs i
  conv => whnf
  refine .mk (by simp only [okI, Rw.rng] at *; omega) ?_
  conv => whnf
  refine CallZ.pure (S.protocol_set (l.getD i default).states n false (by omega)) rfl ?_
  conv => whnf
  repeat (refine VC.mk (by first | exact fun h => h | (intro h; rw [h]; rfl)) ?_; conv => whnf)
  refine CallZ.pure (S.protocol_when (leastBad (l.getD i default)) 1) rfl ?_
  conv => whnf
  refine CallZ.pure (S.protocol_first [setE (l.getD i default).states n, whenE (leastBad (l.getD i default)) 1] true (show 2 < 2^40 by decide)) rfl ?_
  conv => whnf
  refine ⟨fun h4 => ?_, fun h4 => ?_⟩
  ·conv => whnf
   refine EndZ.int ?_
   have h4' : cntE n (l.getD i default) ≠ 0 := nz h4
   rw [hall, if_neg h4']; rfl
  ·conv => whnf
   refine .mk (by simp only [okI, Rw.rng] at *; omega) ?_
   conv => whnf
   have h4' : cntE n (l.getD i default) = 0 := eqz h4
   rw [if_pos h4'] at hall
   refine ⟨i + 1, ⟨by omega, hall⟩, by omega, ⟨⟨_, rfl, rfl⟩, trivial⟩, ?_, rfl⟩
   repeat' (first | exact trivial | exact ⟨_, rfl, rfl⟩ | constructor)
 ·have hi' : l.length ≤ i := by simpa using h3
  rw [List.drop_eq_nil_of_le hi'] at hall
  conv => whnf
  exact EndZ.int (by rw [hall]; rfl)
theorem S.protocol_adjacent (p : Prot) (l : List Int) (f : Bool) (hl : l.length < 2^30) : SpecZ Tryz.prog F.protocol_adjacent [.dat (.prot p), .row 0 f (.ints l)] (.int (adjE p l)) := by
 refine SpecZ.of Bd.protocol_adjacent (by simp) rfl rfl ?_
 conv => whnf
 refine ⟨fun h1 => ?_, fun h1 => ?_⟩
 ·conv => whnf
  exact EndZ.int (by rw [adjE, h1]; rfl)
 conv => whnf
 refine ⟨fun h2 => ?_, fun h2 => ?_⟩
 ·conv => whnf
  exact EndZ.int (by rw [adjE, h1, h2]; rfl)
 conv => whnf
 refine ⟨fun h3 => ?_, fun h3 => ?_⟩
 ·conv => whnf
  exact EndZ.int (by rw [adjE, h1, h2, h3]; rfl)
 have h4 : l.length = 2 := by
  have : (l.length : Int) = 2 := by simpa using h3
  omega
 conv => whnf
 repeat (refine VC.mk (by simp only [okI, Rw.rng] at *; omega) ?_; conv => whnf)
 refine CallZ.pure (S.protocol_index (l.getD 0 0) p.states.length) rfl ?_
 conv => whnf
 refine CallZ.pure (S.protocol_index (l.getD 1 0) p.states.length) rfl ?_
 conv => whnf
 refine CallZ.pure (S.protocol_first [indexE (l.getD 0 0) p.states.length, indexE (l.getD 1 0) p.states.length] true (show 2 < 2^40 by decide)) rfl ?_
 conv => whnf
 exact EndZ.int (by rw [adjE, h1, h2, h3]; rfl)
theorem S.protocol_ValidateProperty (p : Prot) (q : Prop') (hp : SmallP p) (hq : SmallQ q) : SpecZ Tryz.prog F.protocol_ValidateProperty [.dat (.prot p), .dat (.prop q)] (.int (propE p q)) := by
 have g1 := hp.states; have g5 := hp.initial
 have q1 := hq.start; have q2 := hq.bad; have q3 := hq.adjacent; have q4 := hq.goal
 refine SpecZ.of Bd.protocol_ValidateProperty (by simp) rfl rfl ?_
 conv => whnf
 refine CallZ.pure (S.protocol_Validate p hp) rfl ?_
 conv => whnf
 refine ⟨fun h1 => ?_, fun h1 => ?_⟩
 ·conv => whnf
  exact EndZ.int (by rw [propE, h1]; rfl)
 conv => whnf
 refine CallZ.pure (S.protocol_ValidName q.name) rfl ?_
 conv => whnf
 refine ⟨fun h2 => ?_, fun h2 => ?_⟩
 ·conv => whnf
  exact EndZ.int (by rw [propE, h1, h2]; rfl)
 conv => whnf
 repeat (refine VC.mk (by exact fun h => h) ?_; conv => whnf)
 refine ⟨fun h3 => ?_, fun h3 => ?_⟩
 ·conv => whnf
  exact EndZ.int (by rw [propE, h1, h2, h3]; rfl)
 conv => whnf
 repeat (refine VC.mk (by exact fun h => h) ?_; conv => whnf)
 refine ⟨fun h4 => ?_, fun h4 => ?_⟩
 ·conv => whnf
  refine Fork.mk (fun _ => ?_) (fun q => absurd (q.symm.trans (h4)) Bool.false_ne_true)
  conv => whnf
  exact EndZ.int (by rw [propE, h1, h2, h3, show goalBad q = true by rw [goalBad]; erw [h4]; rfl]; rfl)
 conv => whnf
 repeat (refine VC.mk (by first | exact fun h => h | (intro h; simp_all; done)) ?_; conv => whnf)
 refine ⟨fun h5 => ?_, fun h5 => ?_⟩
 ·conv => whnf
  exact EndZ.int (by rw [propE, h1, h2, h3, show goalBad q = true by rw [goalBad]; erw [h5]; simp]; rfl)
 have h45 : goalBad q = false := by rw [goalBad]; erw [h4, h5]; rfl
 conv => whnf
 refine CallZ.pure (S.protocol_set q.start p.states.length false (by omega)) rfl ?_
 conv => whnf
 refine ⟨fun h6 => ?_, fun h6 => ?_⟩
 ·conv => whnf
  exact EndZ.int (by rw [propE, h1, h2, h3, h45, h6]; rfl)
 conv => whnf
 refine LoopZ.same [2, 3, 6, 7, 65, 66] (fun i : Nat => [(67, .int i)]) (fun i => i ≤ q.start.length ∧ (q.start.take i).any (fun x => !(inI p.initial x)) = false) (fun i => q.start.length - i) 0 rfl (by decide) rfl (fun _ => rfl) ⟨by omega, by simp⟩ ⟨⟨_, rfl, rfl⟩, trivial⟩ ?_
 conv => whnf
 refine ⟨rfl, ?_⟩
 rintro i ⟨hi, hall⟩
 conv => whnf
 refine ⟨fun h7 => ?_, fun h7 => ?_⟩
 ·have hi' : i < q.start.length := by simpa using h7
  conv => whnf
  refine .mk (by simp only [okI, Rw.rng] at *; omega) ?_
  conv => whnf
  refine CallZ.pure (S.slices_Contains_int p.initial (q.start.getD i 0) false (by omega)) rfl ?_
  conv => whnf
  refine ⟨fun h8 => ?_, fun h8 => ?_⟩
  ·conv => whnf
   exact EndZ.int (by rw [propE, h1, h2, h3, h45, h6, any_of_get (d := 0) hi' h8]; rfl)
  ·conv => whnf
   refine .mk (by simp only [okI, Rw.rng] at *; omega) ?_
   conv => whnf
   refine ⟨i + 1, ⟨by omega, ?_⟩, by omega, ⟨⟨_, rfl, rfl⟩, trivial⟩, ?_, rfl⟩
   ·rw [any_take (d := 0) hi' hall]; exact h8
   ·repeat' (first | exact trivial | exact ⟨_, rfl, rfl⟩ | constructor)
 have hi' : q.start.length ≤ i := by simpa using h7
 rw [List.take_of_length_le hi'] at hall
 conv => whnf
 refine ⟨fun h8 => ?_, fun h8 => ?_⟩
 ·conv => whnf
  refine CallZ.pure (S.protocol_set q.goal p.states.length false (by omega)) rfl ?_
  conv => whnf
  refine CallZ.pure (S.protocol_when ((q.goal.length : Int) == 0) 1) rfl ?_
  conv => whnf
  refine CallZ.pure (S.protocol_first [setE q.goal p.states.length, whenE ((q.goal.length : Int) == 0) 1] true (show 2 < 2^40 by decide)) rfl ?_
  conv => whnf
  exact EndZ.int (by rw [propE, h1, h2, h3, h45, h6, hall, h8]; rfl)
 conv => whnf
 repeat (refine VC.mk (by exact fun h => h) ?_; conv => whnf)
 refine CallZ.pure (S.protocol_when (((q.bad.length : Int) == 0) && ((q.adjacent.length : Int) == 0)) 1) rfl ?_
 conv => whnf
 refine CallZ.pure (S.protocol_when (decide ((q.bad.length : Int) > 3)) 4) rfl ?_
 conv => whnf
 refine CallZ.pure (S.protocol_counts q.bad p.states.length false q2 hq.cnt) rfl ?_
 conv => whnf
 refine CallZ.pure (S.protocol_adjacent p q.adjacent false q3) rfl ?_
 conv => whnf
 refine CallZ.pure (S.protocol_first [whenE (((q.bad.length : Int) == 0) && ((q.adjacent.length : Int) == 0)) 1, whenE (decide ((q.bad.length : Int) > 3)) 4, countsE q.bad p.states.length, adjE p q.adjacent] true (show 4 < 2^40 by decide)) rfl ?_
 conv => whnf
 exact EndZ.int (by rw [propE, h1, h2, h3, h45, h6, hall, h8]; rfl)
theorem S.r02_Has (l : List Int) (s : Int) (f : Bool) (hl : l.length < 2^40) : SpecZ Tryz.prog F.r02_Has [.row 0 f (.ints l), .int s] (.bool (inI l s)) := by
 refine SpecZ.of Bd.r02_Has (by simp) rfl rfl ?_
 conv => whnf
 refine LoopZ.same [0, 1] (fun i : Nat => [(5, .int i)]) (fun i => i ≤ l.length ∧ (l.take i).any (fun x => s == x) = false) (fun i => l.length - i) 0 rfl (by decide) rfl (fun _ => rfl) ⟨by omega, by simp⟩ ⟨⟨_, rfl, rfl⟩, trivial⟩ ?_
 conv => whnf
 refine ⟨rfl, ?_⟩
 rintro i ⟨hi, hall⟩
 conv => whnf
 refine ⟨fun h3 => ?_, fun h3 => ?_⟩
 ·have hi' : i < l.length := by simpa using h3
  conv => whnf
  refine .mk (by simp only [okI, Rw.rng] at *; omega) ?_
  conv => whnf
  refine ⟨fun h4 => ?_, fun h4 => ?_⟩
  ·have h4' : (s == l.getD i 0) = true := by rw [show (s == l.getD i 0) = (l.getD i 0 == s) from Bool.beq_comm]; exact h4
   conv => whnf
   exact EndZ.bool (any_of_get (d := 0) hi' h4')
  ·have h4' : (s == l.getD i 0) = false := by rw [show (s == l.getD i 0) = (l.getD i 0 == s) from Bool.beq_comm]; exact h4
   conv => whnf
   refine .mk (by simp only [okI, Rw.rng] at *; omega) ?_
   conv => whnf
   refine ⟨i + 1, ⟨by omega, ?_⟩, by omega, ⟨⟨_, rfl, rfl⟩, trivial⟩, ?_, rfl⟩
   ·rw [any_take (d := 0) hi' hall]; exact h4'
   ·repeat' (first | exact trivial | exact ⟨_, rfl, rfl⟩ | constructor)
 ·have hi' : l.length ≤ i := by simpa using h3
  rw [List.take_of_length_le hi'] at hall
  conv => whnf
  exact EndZ.bool hall
theorem adj_any {p : Prot} {l : List Int} (h1 : (decide ((l.length : Int) > 0) && (p.topology == 1)) = false) (h2 : ((l.length : Int) != 0 && (l.length : Int) != 2) = false) : adjE p l = bif l.any (fun x => outE x p.states.length) then 5 else 0 := by
 unfold adjE
 rcases l with _ | ⟨a, _ | ⟨b, _ | ⟨c, r⟩⟩⟩
 ·rfl
 ·simp at h2
 ·have ht : (p.topology == 1) = false := by simpa using h1
  rw [ht]
  simp only [List.length_cons, List.length_nil, List.getD_cons_zero, List.getD_cons_succ, List.any_cons, List.any_nil, Bool.or_false, indexE]
  cases outE a p.states.length <;> cases outE b p.states.length <;> rfl
 ·simp at h2; omega
theorem least_with {c : Cnt} : leastBad c = ((c.states.length : Int) == 0 || !(withE c.least 1 3)) := by
 rw [leastBad, withE_not, Bool.or_assoc]
theorem S.r02_ValidateProperty (p : Prot) (q : Prop') (hp : SmallP p) (hq : SmallQ q) : SpecZ Tryz.prog F.r02_ValidateProperty [.dat (.prot p), .dat (.prop q)] (.int (propE p q)) := by
 have g1 := hp.states; have g5 := hp.initial
 have q1 := hq.start; have q2 := hq.bad; have q3 := hq.adjacent; have q4 := hq.goal
 refine SpecZ.of Bd.r02_ValidateProperty (by simp) rfl rfl ?_
 conv => whnf
 refine CallZ.pure (S.r02_Validate p hp) rfl ?_
 conv => whnf
 refine ⟨fun h1 => ?_, fun h1 => ?_⟩
 ·conv => whnf
  exact EndZ.int (by rw [propE, h1]; rfl)
 conv => whnf
 refine CallZ.pure (S.r02_ValidName q.name) rfl ?_
 conv => whnf
 refine ⟨fun h2 => ?_, fun h2 => ?_⟩
 ·conv => whnf
  exact EndZ.int (by rw [propE, h1, h2]; rfl)
 conv => whnf
 repeat (refine VC.mk (by exact fun h => h) ?_; conv => whnf)
 refine ⟨fun h3 => ?_, fun h3 => ?_⟩
 ·replace h3 : (!(q.kind == 1) && q.kind != 2) = true := h3
  conv => whnf
  exact EndZ.int (by rw [propE, h1, h2, h3]; rfl)
 replace h3 : (!(q.kind == 1) && q.kind != 2) = false := h3
 have k2 : (q.kind == 2) = !(q.kind == 1) := by
  cases e : (q.kind == 1) with
  | true => rw [beq_iff_eq.1 e]; rfl
  | false => rw [e] at h3; simpa using h3
 conv => whnf
 repeat (refine VC.mk (by first | exact fun h => h | (intro h; rw [h]; rfl) | (intro h; simp_all; done)) ?_; conv => whnf)
 refine ⟨fun h4 => ?_, fun h4 => ?_⟩
 ·rw [k2] at h4
  conv => whnf
  exact EndZ.int (by rw [propE, h1, h2, h3, show goalBad q = true from h4]; rfl)
 rw [k2] at h4
 replace h4 : goalBad q = false := h4
 conv => whnf
 refine CallZ.pure (S.r02_Set q.start p.states.length false (by omega) (by omega)) rfl ?_
 conv => whnf
 refine ⟨fun h6 => ?_, fun h6 => ?_⟩
 ·conv => whnf
  exact EndZ.int (by rw [propE, h1, h2, h3, h4, h6]; rfl)
 conv => whnf
 refine LoopZ.same [2, 3, 6] (fun i : Nat => [(8, .int i)]) (fun i => i ≤ q.start.length ∧ (q.start.take i).any (fun x => !(inI p.initial x)) = false) (fun i => q.start.length - i) 0 rfl (by decide) rfl (fun _ => rfl) ⟨by omega, by simp⟩ ⟨⟨_, rfl, rfl⟩, trivial⟩ ?_
 conv => whnf
 refine ⟨rfl, ?_⟩
 rintro i ⟨hi, hall⟩
 conv => whnf
 refine ⟨fun h7 => ?_, fun h7 => ?_⟩
 ·have hi' : i < q.start.length := by simpa using h7
  conv => whnf
  refine .mk (by simp only [okI, Rw.rng] at *; omega) ?_
  conv => whnf
  refine CallZ.pure (S.r02_Has p.initial (q.start.getD i 0) false (by omega)) rfl ?_
  conv => whnf
  refine ⟨fun h8 => ?_, fun h8 => ?_⟩
  ·conv => whnf
   exact EndZ.int (by rw [propE, h1, h2, h3, h4, h6, any_of_get (d := 0) hi' h8]; rfl)
  ·conv => whnf
   refine .mk (by simp only [okI, Rw.rng] at *; omega) ?_
   conv => whnf
   refine ⟨i + 1, ⟨by omega, ?_⟩, by omega, ⟨⟨_, rfl, rfl⟩, trivial⟩, ?_, rfl⟩
   ·rw [any_take (d := 0) hi' hall]; exact h8
   ·repeat' (first | exact trivial | exact ⟨_, rfl, rfl⟩ | constructor)
 have hi' : q.start.length ≤ i := by simpa using h7
 rw [List.take_of_length_le hi'] at hall
 clear h7 hi'
 conv => whnf
 refine ⟨fun h8 => ?_, fun h8 => ?_⟩
 ·have h8' : (!(q.kind == 1)) = true := by rw [← k2]; exact h8
  have hS : propE p q = firstE [setE q.goal p.states.length, whenE ((q.goal.length : Int) == 0) 1] := by rw [propE, h1, h2, h3, h4, h6, hall, h8']; rfl
  rw [hS]
  conv => whnf
  refine CallZ.pure (S.r02_Set q.goal p.states.length false (by omega) (by omega)) rfl ?_
  conv => whnf
  refine ⟨fun h9 => ?_, fun h9 => ?_⟩
  ·conv => whnf
   exact EndZ.int (fN (nz h9))
  rw [show setE q.goal p.states.length = 0 from eqz h9, f0]
  conv => whnf
  refine ⟨fun h10 => ?_, fun h10 => ?_⟩
  ·conv => whnf
   exact EndZ.int (by rw [h10]; rfl)
  ·conv => whnf
   exact EndZ.int (by rw [h10]; rfl)
 have h8' : (!(q.kind == 1)) = false := by rw [← k2]; exact h8
 have hS : propE p q = firstE [whenE (((q.bad.length : Int) == 0) && ((q.adjacent.length : Int) == 0)) 1, whenE (decide ((q.bad.length : Int) > 3)) 4, countsE q.bad p.states.length, adjE p q.adjacent] := by rw [propE, h1, h2, h3, h4, h6, hall, h8']; rfl
 rw [hS]
 conv => whnf
 repeat (refine VC.mk (by exact fun h => h) ?_; conv => whnf)
 refine ⟨fun h9 => ?_, fun h9 => ?_⟩
 ·conv => whnf
  exact EndZ.int (by rw [h9]; rfl)
 rw [h9, f00]
 conv => whnf
 refine ⟨fun h10 => ?_, fun h10 => ?_⟩
 ·conv => whnf
  exact EndZ.int (by rw [show decide ((q.bad.length : Int) > 3) = true from h10]; rfl)
 rw [show decide ((q.bad.length : Int) > 3) = false from h10, f00]
 conv => whnf
 refine LoopZ.same [2, 3, 6] (fun i : Nat => [(10, .int i)]) (fun i => i ≤ q.bad.length ∧ countsE q.bad p.states.length = firstE ((q.bad.drop i).map (cntE p.states.length))) (fun i => q.bad.length - i) 0 rfl (by decide) rfl (fun _ => rfl) ⟨by omega, by simp [countsE]⟩ ⟨⟨_, rfl, rfl⟩, trivial⟩ ?_
 conv => whnf
 refine ⟨rfl, ?_⟩
 rintro j ⟨hj, hcnt⟩
 conv => whnf
 refine ⟨fun h11 => ?_, fun h11 => ?_⟩
 ·have hj' : j < q.bad.length := by simpa using h11
  rw [drop_getD default hj', List.map_cons] at hcnt
  simp only [firstE] at hcnt
  have hc := hq.cnt j
  conv => whnf
  refine .mk (by simp only [okI, Rw.rng] at *; omega) ?_
  conv => whnf
  refine CallZ.pure (S.r02_Set (q.bad.getD j default).states p.states.length false (by omega) (by omega)) rfl ?_
  conv => whnf
  refine ⟨fun h12 => ?_, fun h12 => ?_⟩
  ·conv => whnf
   have e1 : cntE p.states.length (q.bad.getD j default) = setE (q.bad.getD j default).states p.states.length := fN (nz h12)
   rw [e1, if_neg (nz h12)] at hcnt
   exact EndZ.int (by rw [hcnt, fN (nz h12)])
  have h12' : setE (q.bad.getD j default).states p.states.length = 0 := eqz h12
  have e1 : cntE p.states.length (q.bad.getD j default) = firstE [whenE (leastBad (q.bad.getD j default)) 1] := by rw [cntE, h12', f0]
  rw [e1, least_with] at hcnt
  conv => whnf
  repeat (refine VC.mk (by first | exact fun h => h | (intro h; (repeat' apply And.intro) <;> first | exact h | omega | (simp only [Rw.rngE]; omega) | (simp only [Rw.rng]; omega)) | (simp only [okI, Rw.rng] at *; omega)) ?_; conv => whnf)
  refine CallZ.pureG (fun _ => S.r02_within (q.bad.getD j default).least 1 3) rfl ?_
  conv => whnf
  repeat (refine VC.mk (by first | exact fun h => h | (intro h; rw [h]; rfl)) ?_; conv => whnf)
  refine ⟨fun h13 => ?_, fun h13 => ?_⟩
  ·replace h13 : (((q.bad.getD j default).states.length : Int) == 0 || !(withE (q.bad.getD j default).least 1 3)) = true := h13
   rw [h13] at hcnt
   conv => whnf
   exact EndZ.int (by rw [hcnt]; rfl)
  ·replace h13 : (((q.bad.getD j default).states.length : Int) == 0 || !(withE (q.bad.getD j default).least 1 3)) = false := h13
   rw [h13] at hcnt
   conv => whnf
   refine .mk (by simp only [okI, Rw.rng] at *; omega) ?_
   conv => whnf
   refine ⟨j + 1, ⟨by omega, hcnt⟩, by omega, ⟨⟨_, rfl, rfl⟩, trivial⟩, ?_, rfl⟩
   repeat' (first | exact trivial | exact ⟨_, rfl, rfl⟩ | constructor)
 have hj' : q.bad.length ≤ j := by simpa using h11
 rw [List.drop_eq_nil_of_le hj'] at hcnt
 rw [hcnt, show firstE (List.map (cntE p.states.length) []) = 0 from rfl, f0]
 conv => whnf
 repeat (refine VC.mk (by exact fun h => h) ?_; conv => whnf)
 refine ⟨fun h12 => ?_, fun h12 => ?_⟩
 ·replace h12 : (decide ((q.adjacent.length : Int) > 0) && (p.topology == 1)) = true := h12
  conv => whnf
  rw [Bool.and_eq_true] at h12
  have : ((q.adjacent.length : Int) == 0) = false := beq_eq_false_iff_ne.2 (by have := of_decide_eq_true h12.1; omega)
  exact EndZ.int (by rw [adjE, this, h12.2]; rfl)
 replace h12 : (decide ((q.adjacent.length : Int) > 0) && (p.topology == 1)) = false := h12
 conv => whnf
 repeat (refine VC.mk (by exact fun h => h) ?_; conv => whnf)
 refine ⟨fun h13 => ?_, fun h13 => ?_⟩
 ·replace h13 : ((q.adjacent.length : Int) != 0 && (q.adjacent.length : Int) != 2) = true := h13
  conv => whnf
  rw [Bool.and_eq_true] at h13
  have e0 : ((q.adjacent.length : Int) == 0) = false := by simpa using h13.1
  have e1 : (p.topology == 1) = false := by
   rw [Bool.and_eq_false_iff] at h12
   rcases h12 with h12 | h12
   ·have := of_decide_eq_false h12
    have : (q.adjacent.length : Int) ≠ 0 := by simpa using e0
    omega
   ·exact h12
  exact EndZ.int (by rw [adjE, e0, e1, h13.2]; rfl)
 replace h13 : ((q.adjacent.length : Int) != 0 && (q.adjacent.length : Int) != 2) = false := h13
 rw [adj_any h12 h13]
 conv => whnf
 refine LoopZ.same [2, 3, 6] (fun i : Nat => [(12, .int i)]) (fun i => i ≤ q.adjacent.length ∧ (q.adjacent.take i).any (fun x => outE x p.states.length) = false) (fun i => q.adjacent.length - i) 0 rfl (by decide) rfl (fun _ => rfl) ⟨by omega, by simp⟩ ⟨⟨_, rfl, rfl⟩, trivial⟩ ?_
 conv => whnf
 refine ⟨rfl, ?_⟩
 rintro k ⟨hk, hadj⟩
 conv => whnf
 refine ⟨fun h14 => ?_, fun h14 => ?_⟩
 ·have hk' : k < q.adjacent.length := by simpa using h14
  conv => whnf
  repeat (refine VC.mk (by simp only [okI, Rw.rng] at *; omega) ?_; conv => whnf)
  refine CallZ.pure (S.r02_within (q.adjacent.getD k 0) 0 (p.states.length - 1)) rfl ?_
  conv => whnf
  refine ⟨fun h15 => ?_, fun h15 => ?_⟩
  ·replace h15 : (!(withE (q.adjacent.getD k 0) 0 (p.states.length - 1))) = true := h15
   rw [withE_out'] at h15
   conv => whnf
   exact EndZ.int (by rw [any_of_get (d := 0) hk' h15]; rfl)
  ·replace h15 : (!(withE (q.adjacent.getD k 0) 0 (p.states.length - 1))) = false := h15
   rw [withE_out'] at h15
   conv => whnf
   refine .mk (by simp only [okI, Rw.rng] at *; omega) ?_
   conv => whnf
   refine ⟨k + 1, ⟨by omega, ?_⟩, by omega, ⟨⟨_, rfl, rfl⟩, trivial⟩, ?_, rfl⟩
   ·rw [any_take (d := 0) hk' hadj]; exact h15
   ·repeat' (first | exact trivial | exact ⟨_, rfl, rfl⟩ | constructor)
 have hk' : q.adjacent.length ≤ k := by simpa using h14
 rw [List.take_of_length_le hk'] at hadj
 conv => whnf
 exact EndZ.int (by rw [hadj]; rfl)
theorem EndZ.ownI {h : Hz} {j : Nat} {l : List Int} (q : h.get j = some (rowI l)) : EndZ (.row 0 false (.ints l)) (.own j) h := ⟨lendI trivial q⟩
theorem EndZ.nilR {h : Hz} {k k' : Nat} {r : Rw} (e : r.len = 0) : EndZ (.row k false r) (.row k' true .nil) h := ⟨by
 have : r.toL = [] := List.eq_nil_of_length_eq_zero (by rw [Rw.len_toL]; exact e)
 show T.sub (fun _ => True) h.toHp (.sl k false r.toL) (.sl k' true [])
 rw [this]; simp [T.sub]⟩
theorem S.Clone_int (l : List Int) (f : Bool) (hl : l.length < 2^30) : SpecZ Tryz.prog F.slices_Clone_Lint_int [.row 0 f (.ints l)] (.row 0 false (.ints l)) := by
 refine SpecZ.of Bd.slices_Clone_Lint_int (by simp) rfl rfl ?_
 conv => whnf
 refine NilZ.mk (fun hz => ?_) ?_
 ·conv => whnf
  refine Fork.mk (fun _ => ?_) (fun q => absurd (q.symm.trans ((rfl : true = true))) Bool.false_ne_true)
  conv => whnf
  exact EndZ.nilR hz
 ·conv => whnf
  refine Fork.mk (fun q => absurd (q.symm.trans ((rfl : false = false))).symm Bool.false_ne_true) (fun _ => ?_)
  conv => whnf
  refine .mk (by simp only [capOk, lenRX, Rw.len, List.length_append, List.length_nil]; omega) ?_
  conv => whnf
  repeat (refine VC.mk (by simp only [capOk, lenRX, Rw.len]; omega) ?_; conv => whnf)
  exact EndZ.ownI rfl
theorem S.r01_CopyInts (l : List Int) (f : Bool) (hl : l.length < 2^30) : SpecZ Tryz.prog F.r01_CopyInts [.row 0 f (.ints l)] (.row 0 false (.ints l)) := by
 refine SpecZ.of Bd.r01_CopyInts (by simp) rfl rfl ?_
 conv => whnf
 refine .mk (by simp only [capOk, lenRX, Rw.len]; omega) ?_
 conv => whnf
 exact EndZ.ownI rfl
def startL (p : Prot) (q : Prop') : List Int := bif decide ((q.start.length : Int) > 0) then q.start else p.initial
def checkE (p : Prot) (q : Prop') : Int := bif propE p q != 0 then propE p q else whenE (!(classOf p).cover || q.kind != 1) 7
theorem prop_valid {p : Prot} {q : Prop'} (h : propE p q = 0) : validE p = 0 := by
 unfold propE at h
 obtain ⟨h1, _⟩ := bz nz h
 exact eqz h1
theorem check_cls {p : Prot} {q : Prop'} (h : propE p q = 0) : checkE p q = whenE (!(bif validE p != 0 then noCls else classOf p).cover || q.kind != 1) 7 := by
 have h2 := prop_valid h
 rw [checkE, show (propE p q != 0) = false by simp [h], show (validE p != 0) = false by simp [h2]]; rfl
theorem S.cover_Check (p : Prot) (q : Prop') (hp : SmallP p) (hq : SmallQ q) : SpecZ Tryz.prog F.cover_Check [.dat (.prot p), .dat (.prop q)] (.int (checkE p q)) := by
 refine SpecZ.of Bd.cover_Check (by simp) rfl rfl ?_
 conv => whnf
 refine CallZ.pure (S.protocol_ValidateProperty p q hp hq) rfl ?_
 conv => whnf
 refine ⟨fun h1 => ?_, fun h1 => ?_⟩
 ·conv => whnf
  exact EndZ.int (by rw [checkE, h1]; rfl)
 rw [check_cls (eqz h1)]
 conv => whnf
 refine CallZ.pure (S.protocol_Classify p hp) rfl ?_
 conv => whnf
 repeat (refine VC.mk (by first | exact fun h => h | (intro h; rw [h]; rfl)) ?_; conv => whnf)
 refine ⟨fun h2 => ?_, fun h2 => ?_⟩
 ·conv => whnf
  exact EndZ.int (by rw [h2]; rfl)
 ·conv => whnf
  exact EndZ.int (by rw [h2]; rfl)
theorem S.r05_Check (p : Prot) (q : Prop') (hp : SmallP p) (hq : SmallQ q) : SpecZ Tryz.prog F.r05_Check [.dat (.prot p), .dat (.prop q)] (.int (checkE p q)) := by
 refine SpecZ.of Bd.r05_Check (by simp) rfl rfl ?_
 conv => whnf
 refine CallZ.pure (S.r02_ValidateProperty p q hp hq) rfl ?_
 conv => whnf
 refine ⟨fun h1 => ?_, fun h1 => ?_⟩
 ·conv => whnf
  exact EndZ.int (by rw [checkE, h1]; rfl)
 rw [check_cls (eqz h1)]
 conv => whnf
 refine CallZ.pure (S.r02_Classify p hp) rfl ?_
 conv => whnf
 repeat (refine VC.mk (by first | exact fun h => h | (intro h; rw [h]; rfl)) ?_; conv => whnf)
 refine ⟨fun h2 => ?_, fun h2 => ?_⟩
 ·conv => whnf
  exact EndZ.int (by rw [h2]; rfl)
 ·conv => whnf
  exact EndZ.int (by rw [h2]; rfl)
theorem S.protocol_Starts (p : Prot) (q : Prop') (hp : SmallP p) (hq : SmallQ q) (hv : propE p q = 0) : SpecZ Tryz.prog F.protocol_Starts [.dat (.prot p), .dat (.prop q)] (.tup [.row 0 false (.ints (startL p q)), .int 0]) := by
 have g5 := hp.initial; have q1 := hq.start
 refine SpecZ.of Bd.protocol_Starts (by simp) rfl rfl ?_
 conv => whnf
 refine CallZ.pure (S.protocol_ValidateProperty p q hp hq) rfl ?_
 conv => whnf
 refine Fork.mk (fun q => absurd (q.symm.trans ((by simp [hv]))).symm Bool.false_ne_true) (fun _ => ?_)
 conv => whnf
 refine ⟨fun h2 => ?_, fun h2 => ?_⟩
 ·conv => whnf
  refine CallZ.pure (S.Clone_int q.start false q1) rfl ?_
  conv => whnf
  exact EndZ.eqv (by rw [startL, show decide ((q.start.length : Int) > 0) = true from h2]; rfl)
 ·conv => whnf
  refine CallZ.pure (S.Clone_int p.initial false g5) rfl ?_
  conv => whnf
  exact EndZ.eqv (by rw [startL, show decide ((q.start.length : Int) > 0) = false from h2]; rfl)
theorem S.r02_StartStates (p : Prot) (q : Prop') (hp : SmallP p) (hq : SmallQ q) : SpecZ Tryz.prog F.r02_StartStates [.dat (.prot p), .dat (.prop q)] (.row 0 false (.ints (startL p q))) := by
 have g5 := hp.initial; have q1 := hq.start
 refine SpecZ.of Bd.r02_StartStates (by simp) rfl rfl ?_
 conv => whnf
 refine ⟨fun h2 => ?_, fun h2 => ?_⟩
 ·conv => whnf
  refine CallZ.pure (S.r01_CopyInts q.start false q1) rfl ?_
  conv => whnf
  exact EndZ.eqv (by rw [startL, show decide ((q.start.length : Int) > 0) = true from h2]; rfl)
 ·conv => whnf
  refine CallZ.pure (S.r01_CopyInts p.initial false g5) rfl ?_
  conv => whnf
  exact EndZ.eqv (by rw [startL, show decide ((q.start.length : Int) > 0) = false from h2]; rfl)
theorem S.r02_Starts (p : Prot) (q : Prop') (hp : SmallP p) (hq : SmallQ q) (hv : propE p q = 0) : SpecZ Tryz.prog F.r02_Starts [.dat (.prot p), .dat (.prop q)] (.tup [.row 0 false (.ints (startL p q)), .int 0]) := by
 refine SpecZ.of Bd.r02_Starts (by simp) rfl rfl ?_
 conv => whnf
 refine CallZ.pure (S.r02_ValidateProperty p q hp hq) rfl ?_
 conv => whnf
 refine Fork.mk (fun q => absurd (q.symm.trans ((by simp [hv]))).symm Bool.false_ne_true) (fun _ => ?_)
 conv => whnf
 refine CallZ.pure (S.r02_StartStates p q hp hq) rfl ?_
 conv => whnf
 exact EndZ.eqv rfl
def initB (p : Prot) (q : Prop') (e : Elem) : Bool := !(outB e.counts (startL p q)) && (e.value == 0)
theorem start_len {p : Prot} {q : Prop'} (hp : SmallP p) (hq : SmallQ q) : (startL p q).length < 2^30 := by
 unfold startL
 cases decide ((q.start.length : Int) > 0)
 ·exact hp.initial
 ·exact hq.start
theorem S.cover_initial (p : Prot) (q : Prop') (e : Elem) (hp : SmallP p) (hq : SmallQ q) (he : e.counts.length < 2^30) (hv : propE p q = 0) : SpecZ Tryz.prog F.cover_initial [.dat (.prot p), .dat (.prop q), .dat (.elem e)] (.bool (initB p q e)) := by
 have hst := start_len hp hq
 refine SpecZ.of Bd.cover_initial (by simp) rfl rfl ?_
 conv => whnf
 refine CallZ.pure (S.protocol_Starts p q hp hq hv) rfl ?_
 conv => whnf
 refine LoopZ.same [5, 7, 18, 19] (fun i : Nat => [(20, .int i)]) (fun i => i ≤ e.counts.length ∧ (List.range i).any (fun i => decide (e.counts.getD i 0 > 0) && !(inI (startL p q) i)) = false) (fun i => e.counts.length - i) 0 rfl (by decide) rfl (fun _ => rfl) ⟨by omega, by simp⟩ ⟨⟨_, rfl, rfl⟩, trivial⟩ ?_
 conv => whnf
 refine ⟨rfl, ?_⟩
 rintro i ⟨hi, hall⟩
 conv => whnf
 refine ⟨fun h3 => ?_, fun h3 => ?_⟩
 ·have hi' : i < e.counts.length := by simpa using h3
  conv => whnf
  repeat (refine VC.mk (by first | exact fun h => ⟨h, h⟩ | (simp only [okI, Rw.rng] at *; omega)) ?_; conv => whnf)
  refine CallZ.pureG (fun _ => S.slices_Contains_int (startL p q) i false (by omega)) rfl ?_
  conv => whnf
  repeat (refine VC.mk (by exact fun h => h) ?_; conv => whnf)
  refine ⟨fun h4 => ?_, fun h4 => ?_⟩
  ·conv => whnf
   have : outB e.counts (startL p q) = true := any_range.2 ⟨i, hi', h4⟩
   exact EndZ.bool (by rw [initB, this]; rfl)
  ·conv => whnf
   refine .mk (by simp only [okI, Rw.rng] at *; omega) ?_
   conv => whnf
   refine ⟨i + 1, ⟨by omega, ?_⟩, by omega, ⟨⟨_, rfl, rfl⟩, trivial⟩, ?_, rfl⟩
   ·rw [List.range_succ, List.any_append, hall]
    simp only [List.any_cons, List.any_nil, Bool.or_false, Bool.false_or]; exact h4
   ·repeat' (first | exact trivial | exact ⟨_, rfl, rfl⟩ | constructor)
 ·have hi' : e.counts.length ≤ i := by simpa using h3
  have ei : i = e.counts.length := Nat.le_antisymm hi hi'
  subst ei
  conv => whnf
  exact EndZ.bool (by rw [initB, show outB e.counts (startL p q) = false from hall]; rfl)
theorem S.r05_initial (p : Prot) (q : Prop') (e : Elem) (hp : SmallP p) (hq : SmallQ q) (he : e.counts.length < 2^30) (hv : propE p q = 0) : SpecZ Tryz.prog F.r05_initial [.dat (.prot p), .dat (.prop q), .dat (.elem e)] (.bool (initB p q e)) := by
 have hst := start_len hp hq
 refine SpecZ.of Bd.r05_initial (by simp) rfl rfl ?_
 conv => whnf
 refine CallZ.pure (S.r02_Starts p q hp hq hv) rfl ?_
 conv => whnf
 refine LoopZ.same [5, 7] (fun i : Nat => [(9, .int i)]) (fun i => i ≤ e.counts.length ∧ (List.range i).any (fun i => decide (e.counts.getD i 0 > 0) && !(inI (startL p q) i)) = false) (fun i => e.counts.length - i) 0 rfl (by decide) rfl (fun _ => rfl) ⟨by omega, by simp⟩ ⟨⟨_, rfl, rfl⟩, trivial⟩ ?_
 conv => whnf
 refine ⟨rfl, ?_⟩
 rintro i ⟨hi, hall⟩
 conv => whnf
 refine ⟨fun h3 => ?_, fun h3 => ?_⟩
 ·have hi' : i < e.counts.length := by simpa using h3
  conv => whnf
  repeat (refine VC.mk (by first | exact fun h => ⟨h, h⟩ | (simp only [okI, Rw.rng] at *; omega)) ?_; conv => whnf)
  refine CallZ.pureG (fun _ => S.r05_in (startL p q) i false (by omega)) rfl ?_
  conv => whnf
  repeat (refine VC.mk (by exact fun h => h) ?_; conv => whnf)
  refine ⟨fun h4 => ?_, fun h4 => ?_⟩
  ·conv => whnf
   have : outB e.counts (startL p q) = true := any_range.2 ⟨i, hi', h4⟩
   exact EndZ.bool (by rw [initB, this]; rfl)
  ·conv => whnf
   refine .mk (by simp only [okI, Rw.rng] at *; omega) ?_
   conv => whnf
   refine ⟨i + 1, ⟨by omega, ?_⟩, by omega, ⟨⟨_, rfl, rfl⟩, trivial⟩, ?_, rfl⟩
   ·rw [List.range_succ, List.any_append, hall]
    simp only [List.any_cons, List.any_nil, Bool.or_false, Bool.false_or]; exact h4
   ·repeat' (first | exact trivial | exact ⟨_, rfl, rfl⟩ | constructor)
 ·have hi' : e.counts.length ≤ i := by simpa using h3
  have ei : i = e.counts.length := Nat.le_antisymm hi hi'
  subst ei
  conv => whnf
  exact EndZ.bool (by rw [initB, show outB e.counts (startL p q) = false from hall]; rfl)
def iniE (p : Prot) (q : Prop') (e : Elem) : Int := bif checkE p q != 0 then checkE p q else whenE (velE p e) 1
def iniA (p : Prot) (q : Prop') (e : Elem) : Bool := (iniE p q e == 0) && initB p q e
theorem check_prop {p : Prot} {q : Prop'} (h : checkE p q = 0) : propE p q = 0 := by
 unfold checkE at h
 obtain ⟨h1, _⟩ := bz nz h
 exact eqz h1
theorem S.cover_Initial (p : Prot) (q : Prop') (e : Elem) (hp : SmallP p) (hq : SmallQ q) (he : e.counts.length < 2^30) : SpecZ Tryz.prog F.cover_Initial [.dat (.prot p), .dat (.prop q), .dat (.elem e)] (.tup [.bool (iniA p q e), .int (iniE p q e)]) := by
 refine SpecZ.of Bd.cover_Initial (by simp) rfl rfl ?_
 conv => whnf
 refine CallZ.pure (S.cover_Check p q hp hq) rfl ?_
 conv => whnf
 refine ⟨fun h1 => ?_, fun h1 => ?_⟩
 ·have : iniE p q e = checkE p q := by rw [iniE, h1]; rfl
  conv => whnf
  refine EndZ.eqv ?_
  rw [iniA, this, show (checkE p q == 0) = false from by simpa using h1]; rfl
 have h1' := eqz h1
 conv => whnf
 refine CallZ.pure (S.cover_validElement p e hp he) rfl ?_
 conv => whnf
 have hE : iniE p q e = whenE (velE p e) 1 := by rw [iniE, show (checkE p q != 0) = false from h1]; rfl
 rw [iniA, hE]
 refine ⟨fun h2 => ?_, fun h2 => ?_⟩
 ·conv => whnf
  refine EndZ.eqv ?_
  rw [show (whenE (velE p e) 1 == 0) = false from by simpa using h2]; rfl
 ·conv => whnf
  refine CallZ.pure (S.cover_initial p q e hp hq he (check_prop h1')) rfl ?_
  conv => whnf
  refine EndZ.eqv ?_
  rw [show whenE (velE p e) 1 = 0 from eqz h2]; rfl
theorem S.r05_Initial (p : Prot) (q : Prop') (e : Elem) (hp : SmallP p) (hq : SmallQ q) (he : e.counts.length < 2^30) : SpecZ Tryz.prog F.r05_Initial [.dat (.prot p), .dat (.prop q), .dat (.elem e)] (.tup [.bool (iniA p q e), .int (iniE p q e)]) := by
 refine SpecZ.of Bd.r05_Initial (by simp) rfl rfl ?_
 conv => whnf
 refine CallZ.pure (S.r05_Check p q hp hq) rfl ?_
 conv => whnf
 refine ⟨fun h1 => ?_, fun h1 => ?_⟩
 ·have : iniE p q e = checkE p q := by rw [iniE, h1]; rfl
  conv => whnf
  refine EndZ.eqv ?_
  rw [iniA, this, show (checkE p q == 0) = false from by simpa using h1]; rfl
 have h1' := eqz h1
 conv => whnf
 refine CallZ.pure (S.r05_Fits p e hp he) rfl ?_
 conv => whnf
 have hE : iniE p q e = whenE (velE p e) 1 := by rw [iniE, show (checkE p q != 0) = false from h1]; rfl
 rw [iniA, hE]
 refine ⟨fun h2 => ?_, fun h2 => ?_⟩
 ·conv => whnf
  refine EndZ.eqv ?_
  rw [show velE p e = true by simpa using h2]; rfl
 ·conv => whnf
  refine CallZ.pure (S.r05_initial p q e hp hq he (check_prop h1')) rfl ?_
  conv => whnf
  refine EndZ.eqv ?_
  rw [show velE p e = false by simpa using h2]; rfl
def cntS (st c : List Int) : Int := (st.map fun x => c.getD x.toNat 0).sum
def demB (q : Prop') (c : List Int) : Bool := q.bad.all fun k => decide (k.least ≤ cntS k.states c)
structure BadF (n : Nat) (q : Prop') : Prop where
 place : ∀ k ∈ q.bad, placeI n k.states
 least : ∀ k ∈ q.bad, 1 ≤ k.least ∧ k.least ≤ 3
 some : ∀ k ∈ q.bad, k.states ≠ []
def few (c : List Int) : Prop := ∀ x ∈ c, 0 ≤ x ∧ x ≤ 4
theorem few.get {c : List Int} (h : few c) (i : Nat) : 0 ≤ c.getD i 0 ∧ c.getD i 0 ≤ 4 := by
 by_cases hi : i < c.length
 ·rw [show c.getD i 0 = c[i] by simp [hi]]; exact h _ (List.getElem_mem hi)
 ·rw [show c.getD i 0 = 0 by simp [List.getD_eq_getElem?_getD, List.getElem?_eq_none (by omega : c.length ≤ i)]]; omega
theorem cntS_take {st c : List Int} {i : Nat} (hi : i < st.length) : cntS (st.take (i + 1)) c = cntS (st.take i) c + c.getD (st.getD i 0).toNat 0 := by
 unfold cntS
 rw [List.take_add_one, List.map_append, List.sum_append]; simp [hi]
theorem cntS_few {st c : List Int} (h : few c) : 0 ≤ cntS st c ∧ cntS st c ≤ 4 * st.length := by
 unfold cntS
 induction st with
 | nil => simp
 | cons x r ih =>
  have := h.get x.toNat
  simp only [List.map_cons, List.sum_cons, List.length_cons]; omega
theorem getD_mem {α : Type} {l : List α} {i : Nat} {d : α} (hi : i < l.length) : l.getD i d ∈ l := by
 rw [show l.getD i d = l[i] by simp [hi]]; exact List.getElem_mem hi
theorem S.cover_badCounts (q : Prop') (c : List Int) (f : Bool) (hq : SmallQ q) (hb : BadF c.length q) (hc : few c) (hl : c.length < 2^30) : SpecZ Tryz.prog F.cover_badCounts [.dat (.prop q), .row 0 f (.ints c)] (.bool (demB q c)) := by
 have q2 := hq.bad
 refine SpecZ.of Bd.cover_badCounts (by simp) rfl rfl ?_
 conv => whnf
 refine LoopZ.same [1, 11, 12] (fun i : Nat => [(13, .int i)]) (fun i => i ≤ q.bad.length ∧ (q.bad.take i).all (fun k => decide (k.least ≤ cntS k.states c)) = true) (fun i => q.bad.length - i) 0 rfl (by decide) rfl (fun _ => rfl) ⟨by omega, by simp⟩ ⟨⟨_, rfl, rfl⟩, trivial⟩ ?_
 conv => whnf
 refine ⟨rfl, ?_⟩
 rintro i ⟨hi, hall⟩
 conv => whnf
 refine ⟨fun h3 => ?_, fun h3 => ?_⟩
 ·have hi' : i < q.bad.length := by simpa using h3
  have hk := getD_mem (d := default) hi'
  have hpl := hb.place _ hk
  have hsz := hq.cnt i
  conv => whnf
  refine .mk (by simp only [okI, Rw.rng] at *; omega) ?_
  conv => whnf
  refine LoopZ.same [1, 6, 11, 12, 13, 18, 19] (fun j : Nat => [(20, .int j), (7, .int (cntS ((q.bad.getD i default).states.take j) c))]) (fun j => j ≤ (q.bad.getD i default).states.length) (fun j => (q.bad.getD i default).states.length - j) 0 rfl (by decide) rfl (fun _ => rfl) (Nat.zero_le _) ⟨⟨_, rfl, rfl⟩, ⟨_, rfl, rfl⟩, trivial⟩ ?_
  conv => whnf
  refine ⟨rfl, ?_⟩
  rintro j hj
  have hs1 := cntS_few (st := (q.bad.getD i default).states.take j) hc
  have hl1 : ((q.bad.getD i default).states.take j).length ≤ (q.bad.getD i default).states.length := by rw [List.length_take]; omega
  conv => whnf
  refine ⟨fun h4 => ?_, fun h4 => ?_⟩
  ·have hj' : j < (q.bad.getD i default).states.length := by simpa using h4
   have hst := cntS_take (c := c) hj'
   have hg := hc.get ((q.bad.getD i default).states.getD j 0).toNat
   obtain ⟨p1, p2⟩ := hpl _ (getD_mem (d := 0) hj')
   conv => whnf
   repeat (refine VC.mk (by first | (simp only [Rw.rng, Int.toNat_natCast]; omega) | (simp only [okI, Int.toNat_natCast] at *; omega)) ?_; conv => whnf)
   refine ⟨j + 1, by omega, by omega, ⟨⟨_, rfl, rfl⟩, ⟨_, rfl, ?_⟩, trivial⟩, ?_, rfl⟩
   ·rw [hst]; rfl
   ·repeat' (first | exact trivial | exact ⟨_, rfl, rfl⟩ | constructor)
  ·have hj' : (q.bad.getD i default).states.length ≤ j := by simpa using h4
   rw [List.take_of_length_le hj']
   conv => whnf
   refine ⟨fun h5 => ?_, fun h5 => ?_⟩
   ·conv => whnf
    refine EndZ.bool ?_
    have : ¬ (q.bad.getD i default).least ≤ cntS (q.bad.getD i default).states c := by
     simp only [Int.toNat_natCast] at h5
     have := of_decide_eq_true h5; omega
    exact all_of_get (p := fun k => decide (k.least ≤ cntS k.states c)) (d := default) hi' (decide_eq_false this)
   ·conv => whnf
    refine .mk (by simp only [okI, Rw.rng] at *; omega) ?_
    conv => whnf
    have : (q.bad.getD i default).least ≤ cntS (q.bad.getD i default).states c := by
     simp only [Int.toNat_natCast] at h5
     have := of_decide_eq_false h5; omega
    refine ⟨i + 1, ⟨by omega, ?_⟩, by omega, ⟨⟨_, rfl, rfl⟩, trivial⟩, ?_, rfl⟩
    ·rw [all_take1 (d := default) hi' hall]; exact decide_eq_true this
    ·repeat' (first | exact trivial | exact ⟨_, rfl, rfl⟩ | constructor)
 ·have hi' : q.bad.length ≤ i := by simpa using h3
  rw [List.take_of_length_le hi'] at hall
  conv => whnf
  exact EndZ.bool hall
theorem S.r05_Demanded (q : Prop') (c : List Int) (f : Bool) (hq : SmallQ q) (hb : BadF c.length q) (hc : few c) (hl : c.length < 2^30) : SpecZ Tryz.prog F.r05_Demanded [.dat (.prop q), .row 0 f (.ints c)] (.bool (demB q c)) := by
 have q2 := hq.bad
 refine SpecZ.of Bd.r05_Demanded (by simp) rfl rfl ?_
 conv => whnf
 refine LoopZ.same [1, 2] (fun i : Nat => [(5, .int i)]) (fun i => i ≤ q.bad.length ∧ (q.bad.take i).all (fun k => decide (k.least ≤ cntS k.states c)) = true) (fun i => q.bad.length - i) 0 rfl (by decide) rfl (fun _ => rfl) ⟨by omega, by simp⟩ ⟨⟨_, rfl, rfl⟩, trivial⟩ ?_
 conv => whnf
 refine ⟨rfl, ?_⟩
 rintro i ⟨hi, hall⟩
 conv => whnf
 refine ⟨fun h3 => ?_, fun h3 => ?_⟩
 ·have hi' : i < q.bad.length := by simpa using h3
  have hk := getD_mem (d := default) hi'
  have hpl := hb.place _ hk
  have hsz := hq.cnt i
  conv => whnf
  refine LoopZ.same [1, 2, 5] (fun j : Nat => [(7, .int j), (6, .int (cntS ((q.bad.getD i default).states.take j) c))]) (fun j => j ≤ (q.bad.getD i default).states.length) (fun j => (q.bad.getD i default).states.length - j) 0 rfl (by decide) rfl (fun _ => rfl) (Nat.zero_le _) ⟨⟨_, rfl, rfl⟩, ⟨_, rfl, rfl⟩, trivial⟩ ?_
  conv => whnf
  refine ⟨rfl, ?_⟩
  rintro j hj
  have hs1 := cntS_few (st := (q.bad.getD i default).states.take j) hc
  have hl1 : ((q.bad.getD i default).states.take j).length ≤ (q.bad.getD i default).states.length := by rw [List.length_take]; omega
  conv => whnf
  refine .mk (by simp only [okI, Rw.rng] at *; omega) ?_
  conv => whnf
  refine ⟨fun h4 => ?_, fun h4 => ?_⟩
  ·have hj' : j < (q.bad.getD i default).states.length := by simpa using h4
   have hst := cntS_take (c := c) hj'
   have hg := hc.get ((q.bad.getD i default).states.getD j 0).toNat
   obtain ⟨p1, p2⟩ := hpl _ (getD_mem (d := 0) hj')
   conv => whnf
   repeat (refine VC.mk (by first | (simp only [Rw.rng, Int.toNat_natCast]; omega) | (simp only [okI, Int.toNat_natCast] at *; omega)) ?_; conv => whnf)
   refine ⟨j + 1, by omega, by omega, ⟨⟨_, rfl, rfl⟩, ⟨_, rfl, ?_⟩, trivial⟩, ?_, rfl⟩
   ·rw [hst]; rfl
   ·repeat' (first | exact trivial | exact ⟨_, rfl, rfl⟩ | constructor)
  ·have hj' : (q.bad.getD i default).states.length ≤ j := by simpa using h4
   rw [List.take_of_length_le hj']
   conv => whnf
   refine .mk (by simp only [okI, Rw.rng] at *; omega) ?_
   conv => whnf
   refine ⟨fun h5 => ?_, fun h5 => ?_⟩
   ·conv => whnf
    refine EndZ.bool ?_
    have : ¬ (q.bad.getD i default).least ≤ cntS (q.bad.getD i default).states c := by
     simp only [Int.toNat_natCast] at h5
     have := of_decide_eq_true h5; omega
    exact all_of_get (p := fun k => decide (k.least ≤ cntS k.states c)) (d := default) hi' (decide_eq_false this)
   ·conv => whnf
    refine .mk (by simp only [okI, Rw.rng] at *; omega) ?_
    conv => whnf
    have : (q.bad.getD i default).least ≤ cntS (q.bad.getD i default).states c := by
     simp only [Int.toNat_natCast] at h5
     have := of_decide_eq_false h5; omega
    refine ⟨i + 1, ⟨by omega, ?_⟩, by omega, ⟨⟨_, rfl, rfl⟩, trivial⟩, ?_, rfl⟩
    ·rw [all_take1 (d := default) hi' hall]; exact decide_eq_true this
    ·repeat' (first | exact trivial | exact ⟨_, rfl, rfl⟩ | constructor)
 ·have hi' : q.bad.length ≤ i := by simpa using h3
  rw [List.take_of_length_le hi'] at hall
  conv => whnf
  exact EndZ.bool hall
theorem bad_of {p : Prot} {q : Prop'} (h : checkE p q = 0) : q.kind = 1 ∧ BadF p.states.length q ∧ validE p = 0 ∧ (classOf p).cover = true := by
 have hp := check_prop h
 have hv := prop_valid hp
 have hc := h
 unfold checkE at hc
 obtain ⟨_, hc⟩ := bz nz hc
 have hc' := when_zero hc (by decide)
 rw [Bool.or_eq_false_iff, Bool.not_eq_false'] at hc'
 have hk : q.kind = 1 := by simpa using hc'.2
 unfold propE at hp
 obtain ⟨_, hp⟩ := bz nz hp
 obtain ⟨_, hp⟩ := bz (fun _ => by decide) hp
 obtain ⟨_, hp⟩ := bz (fun _ => by decide) hp
 obtain ⟨_, hp⟩ := bz (fun _ => by decide) hp
 obtain ⟨_, hp⟩ := bz nz hp
 obtain ⟨_, hp⟩ := bz (fun _ => by decide) hp
 rw [show (!(q.kind == 1)) = false by simp [hk]] at hp
 have hcn := first_zero hp (countsE q.bad p.states.length) (by simp)
 have hall : ∀ k ∈ q.bad, cntE p.states.length k = 0 := fun k hk => first_zero hcn _ (List.mem_map.2 ⟨k, hk, rfl⟩)
 have hlb : ∀ k ∈ q.bad, leastBad k = false := fun k hk => when_zero (first_zero (hall k hk) (whenE (leastBad k) 1) (by simp)) (by decide)
 refine ⟨hk, ⟨fun k hk => set_place (first_zero (hall k hk) (setE k.states p.states.length) (by simp)), fun k hk => ?_, fun k hk e => ?_⟩, hv, hc'.1⟩
 ·have := hlb k hk
  simp only [leastBad, Bool.or_eq_false_iff, decide_eq_false_iff_not] at this; omega
 ·have := hlb k hk
  rw [leastBad, e] at this; simp at this
def dig : Nat → Nat → List Int
 | 0, _ => []
 | n + 1, v => dig n (v / 4) ++ [((v % 4 : Nat) : Int)]
theorem dig_len : ∀ {n v : Nat}, (dig n v).length = n := by
 intro n
 induction n with
 | zero => intro v; rfl
 | succ n ih => intro v; simp [dig, ih]
theorem dig_rng : ∀ {n v : Nat}, ∀ x ∈ dig n v, 0 ≤ x ∧ x ≤ 3 := by
 intro n
 induction n with
 | zero => intro v x h; cases h
 | succ n ih =>
  intro v x h
  rcases List.mem_append.1 h with h | h
  ·exact ih x h
  ·rw [List.mem_singleton] at h; subst h; omega
theorem dig_few {n v : Nat} : few (dig n v) := fun x h => by have := dig_rng x h; omega
theorem dig_zeros {n u : Nat} : ∀ {k : Nat}, dig (n + k) (u * 4^k) = dig n u ++ List.replicate k 0 := by
 intro k
 induction k with
 | zero => simp
 | succ k ih =>
  rw [← Nat.add_assoc]
  simp only [dig]
  rw [Nat.pow_succ, ← Nat.mul_assoc, Nat.mul_div_cancel _ (by decide : 0 < 4), ih, Nat.mul_mod_left, List.append_assoc, List.replicate_succ']
  rfl
theorem zero_dig {n : Nat} : dig n 0 = List.replicate n 0 := by
 have := @dig_zeros 0 0 n
 simpa [dig] using this
def badAt (q : Prop') (n vals v : Nat) : List Elem := bif demB q (dig n v) then (List.range vals).map (fun (w : Nat) => ⟨(w : Int), dig n v⟩) else []
def bads (q : Prop') (n vals u : Nat) : List Elem := (List.range u).flatMap (badAt q n vals)
theorem bads_next {q : Prop'} {n vals u : Nat} : bads q n vals (u + 1) = bads q n vals u ++ badAt q n vals u := by
 unfold bads
 rw [List.range_succ, List.flatMap_append]; simp
theorem bads_len {q : Prop'} {n vals u : Nat} : (bads q n vals u).length ≤ u * vals := by
 induction u with
 | zero => simp [bads]
 | succ u ih =>
  rw [bads_next, List.length_append, Nat.succ_mul]
  have : (badAt q n vals u).length ≤ vals := by
   unfold badAt
   cases demB q (dig n u) <;> simp
  omega
theorem badAt_mem {q : Prop'} {n vals v : Nat} {e : Elem} (h : e ∈ badAt q n vals v) : e.counts = dig n v := by
 unfold badAt at h
 cases hd : demB q (dig n v) with
 | false => rw [hd] at h; cases h
 | true =>
  rw [hd] at h
  obtain ⟨w, _, rfl⟩ := List.mem_map.1 h
  rfl
theorem bads_good {q : Prop'} {n vals u : Nat} (hn : n ≤ 6) : ∀ e ∈ bads q n vals u, goodE e := by
 intro e h
 obtain ⟨v, _, h2⟩ := List.mem_flatMap.1 h
 rw [show e = ⟨e.value, e.counts⟩ from rfl, badAt_mem h2]
 exact ⟨by rw [dig_len]; exact hn, fun x hx => by have := dig_rng x hx; omega⟩
theorem CallZ.minimalOf {h : Hz} {i n : Nat} {l : List Elem} {K : V → Hz → Prop} (hi : h.get i = some (rowE l)) (hn : h.get n = none) (hl : l.length < 2^29) (hg : ∀ e ∈ l, goodE e)
  (h1 : K (.own n) ((n, some (rowE (covMin l))) :: (i, none) :: h)) (h2 : ∀ m, K (.ovw n 0 (covMin l).length) ((n, some (.row Y.api_Element 3 (.elems (covMin l)) (List.replicate m zeroV))) :: (i, none) :: h)) : CallZ Tryz.prog false none F.cover_minimalOf [.own i] h n K := by
 refine CallZ.place1 (ts := [.own 0]) (S.minimalOf l 1 (by decide) hl hg) rfl rfl rfl rfl hi hn ?_
 rintro t hp (⟨rfl, rfl⟩ | ⟨m, rfl, rfl⟩)
 ·exact .inr ⟨.own n, rowE (covMin l), rfl, rfl, rfl, h1⟩
 ·exact .inr ⟨.ovw n 0 _, .row Y.api_Element 3 (.elems (covMin l)) (List.replicate m zeroV), rfl, rep_fre _ _, rfl, h2 m⟩
theorem subE {Z : Nat → Prop} {h : Hz} {j : Nat} {v : Int} {l : List Int} (hz : Z j) (q : h.get j = some (rowI l)) : T.sub Z h.toHp (eElem ⟨v, l⟩) (.agg [.int v, .own j]) := by
 have := lendI hz q
 show T.sub Z h.toHp (.agg [.int v, .sl 0 false (l.map T.int)]) (.agg [.int v, .own j])
 replace this : T.sub Z h.toHp (.sl 0 false (l.map T.int)) (.own j) := this
 simp only [T.sub] at this
 simp only [T.sub, T.subL]
 exact ⟨trivial, this, trivial⟩
theorem frz_push {Z : Nat → Prop} {h : Hz} {i j : Nat} {l : List Elem} {e : Elem} (q : h.get i = some (.row Y.api_Element 3 (.elems l) [.agg [.int e.value, .own j]])) (hi : ¬ Z i) (hz : Z j) (qj : h.get j = some (rowI e.counts)) :
  ∃ o', h.get i = some o' ∧ ¬ Z i ∧ o'.toOb.ty = (rowE (l ++ [e])).toOb.ty ∧ o'.toOb.k = (rowE (l ++ [e])).toOb.k ∧ T.subL Z h.toHp (rowE (l ++ [e])).toOb.l o'.toOb.l ∧ (rowE (l ++ [e])).toOb.l.map T.kd = o'.toOb.l.map T.kd ∧ (rowE (l ++ [e])).toOb.l.map isEnt = o'.toOb.l.map isEnt := by
 have e1 : (rowE (l ++ [e])).toOb.l = l.map eElem ++ [eElem e] := by simp [rowE, OV.toOb, Rw.toL, V.toL]
 refine ⟨_, q, hi, rfl, rfl, ?_, ?_, ?_⟩
 ·rw [e1]
  exact subL_append (subL_refl _) ⟨subE hz qj, trivial⟩
 ·rw [e1]; show _ = List.map T.kd (l.map eElem ++ [.agg [.int e.value, .own j]])
  rw [List.map_append, List.map_append]; rfl
 ·rw [e1]; show _ = List.map isEnt (l.map eElem ++ [.agg [.int e.value, .own j]])
  rw [List.map_append, List.map_append]; rfl
def back (n v k : Nat) : List Int := dig (n - k) (v / 4^k) ++ List.replicate k 0
theorem back_len {n v k : Nat} (h : k ≤ n) : (back n v k).length = n := by simp [back, dig_len]; omega
theorem back_zero {n v : Nat} : back n v 0 = dig n v := by simp [back]
theorem back_split {n v k : Nat} (h : k < n) : back n v k = dig (n - k - 1) (v / 4^k / 4) ++ (((v / 4^k % 4 : Nat) : Int) :: List.replicate k 0) := by
 unfold back
 obtain ⟨j, hj⟩ : ∃ j, n - k = j + 1 := ⟨n - k - 1, by omega⟩
 rw [hj, dig, List.append_assoc]; rfl
theorem back_next {n v k : Nat} (h : k < n) : back n v (k + 1) = dig (n - k - 1) (v / 4^k / 4) ++ ((0 : Int) :: List.replicate k 0) := by
 unfold back
 rw [Nat.pow_succ, ← Nat.div_div_eq_div_mul, Nat.sub_add_eq, List.replicate_succ]
theorem back_inc {n v k : Nat} (h : k < n) (h3 : v / 4^k % 4 ≠ 3) (hv : v + 1 = (v / 4^k + 1) * 4^k) : dig (n - k - 1) (v / 4^k / 4) ++ ((((v / 4^k % 4 : Nat) : Int) + 1) :: List.replicate k 0) = dig n (v + 1) := by
 have e : dig n (v + 1) = dig ((n - k - 1 + 1) + k) ((v / 4^k + 1) * 4^k) := by rw [← hv]; congr 1; omega
 rw [e, dig_zeros, dig, List.append_assoc]
 congr 1
 ·congr 1; omega
 ·show _ = (((v / 4^k + 1) % 4 : Nat) : Int) :: List.replicate k 0
  congr 1; omega
theorem back_step {v k : Nat} (h3 : v / 4^k % 4 = 3) (hv : v + 1 = (v / 4^k + 1) * 4^k) : v + 1 = (v / 4^(k + 1) + 1) * 4^(k + 1) := by
 have e : v / 4^(k + 1) = v / 4^k / 4 := by rw [Nat.pow_succ, ← Nat.div_div_eq_div_mul]
 rw [e, Nat.pow_succ, Nat.mul_comm (4^k) 4, ← Nat.mul_assoc]
 have : (v / 4^k / 4 + 1) * 4 = v / 4^k + 1 := by omega
 rw [this]; exact hv
theorem inc_lt {n v k : Nat} (h : k < n) (hlt : v < 4^n) (h3 : v / 4^k % 4 ≠ 3) (hv : v + 1 = (v / 4^k + 1) * 4^k) : v + 1 < 4^n := by
 have e : 4^n = 4^(n - k - 1) * 4 * 4^k := by
  rw [← Nat.pow_succ, ← Nat.pow_add]; congr 1; omega
 have h1 : v / 4^k < 4^(n - k - 1) * 4 := by
  rw [Nat.div_lt_iff_lt_mul (Nat.pow_pos (by decide))]; omega
 have h2 : v / 4^k + 1 < 4^(n - k - 1) * 4 := by omega
 rw [hv, e]
 exact Nat.mul_lt_mul_of_pos_right h2 (Nat.pow_pos (by decide))
theorem last_eq {n v : Nat} (hlt : v < 4^n) (hv : v + 1 = (v / 4^n + 1) * 4^n) : v + 1 = 4^n := by
 rw [Nat.div_eq_of_lt hlt] at hv; omega
set_option maxHeartbeats 1000000 in
theorem S.cover_badElements (p : Prot) (q : Prop') (n vals : Nat) (hp : SmallP p) (hq : SmallQ q) (hn : p.states.length = n) (hn0 : 0 < n) (hn6 : n ≤ 6) (hvs : max 1 p.values.length = vals) (hvals : vals ≤ 3) (hb : BadF n q) :
  SpecZ Tryz.prog F.cover_badElements [.dat (.prot p), .dat (.prop q)] (.row 3 false (.elems (covMin (bads q n vals (4^n))))) := by
 refine SpecZ.of Bd.cover_badElements (by simp) rfl rfl ?_
 conv => whnf
 have hm := makeInts (n := p.states.length) (by omega)
 rw [hm]
 conv => whnf
 refine .mk (by omega) ?_
 conv => whnf
 refine LoopZ.nil 5 Y.api_Element 3 (by rfl) rfl rfl rfl ?_
 refine LoopZ.objs 4 [2, 3] (fun v : Nat => [(5, .own 2), (6, .own 3)]) (fun v => [(0, .box Y.api_Protocol 11 (.dat (.prot p))), (1, .box Y.api_Property 7 (.dat (.prop q))), (2, rowE (bads q n vals v)), (3, rowI (dig n v))]) (fun v => v < 4^n) (fun v => 4^n - v) 0 [0, 1, 9, 7] rfl (by decide) (fun _ => rfl) (Nat.pow_pos (by decide)) ?_ ?_ ?_
 ·exact ⟨⟨_, rfl, .eq rfl⟩, ⟨_, rfl, .eq rfl⟩, trivial⟩
 ·refine ⟨⟨rfl, nofun, rfl, rfl, rfl, _, rfl, rfl, rfl, SubA.of_eq rfl⟩, ⟨rfl, nofun, rfl, rfl, rfl, _, rfl, rfl, rfl, SubA.of_eq rfl⟩, ⟨rfl, nofun, rfl, rfl, rfl, _, rfl, rfl, rfl, SubA.of_eq rfl⟩, ⟨rfl, nofun, rfl, rfl, rfl, _, rfl, rfl, rfl, SubA.of_eq ?_⟩, trivial⟩
  rw [zero_dig, hn]
 conv => whnf
 refine ⟨⟨⟨_, rfl, .eq rfl⟩, ⟨_, rfl, .eq rfl⟩, trivial⟩, rfl, ?_⟩
 rintro v hv
 have hbn := @bads_next q n vals v
 have hbl := bads_len (q := q) (n := n) (vals := vals) (u := v)
 have hbm : v * vals ≤ 4096 * 3 := Nat.mul_le_mul (Nat.le_trans (Nat.le_of_lt hv) (Nat.pow_le_pow_right (by decide) (show n ≤ 6 from hn6))) hvals
 conv => whnf
 refine CallZ.lend (S.cover_badCounts q (dig n v) false hq (by rw [dig_len]; exact hb) dig_few (by rw [dig_len]; omega)) (And.intro (sub_refl _) (And.intro (lendI trivial rfl) trivial)) rfl rfl ?_
 conv => whnf
 refine ⟨fun h3 => ?_, fun h3 => ?_⟩
 ·have hat : badAt q n vals v = (List.range vals).map (fun (w : Nat) => ⟨(w : Int), dig n v⟩) := by rw [badAt, h3]; rfl
  conv => whnf
  refine LoopZ.objsF 4 [2, 3, 6, 19] (fun w : Nat => [(20, .int w), (5, .own 2)]) (fun w => [(0, .box Y.api_Protocol 11 (.dat (.prot p))), (1, .box Y.api_Property 7 (.dat (.prop q))), (2, rowE (bads q n vals v ++ (List.range w).map (fun (w : Nat) => ⟨(w : Int), dig n v⟩))), (3, rowI (dig n v))]) (fun w => w ≤ vals) (fun w => vals - w) 0 [0, 1, 2, 3] [(0, some (.box Y.api_Protocol 11 (.dat (.prot p)))), (1, some (.box Y.api_Property 7 (.dat (.prop q)))), (2, some (rowE (bads q n vals v))), (3, some (rowI (dig n v)))] rfl (by decide) (fun _ => rfl) (Nat.zero_le _) ?_ ?_ ?_ ?_
  ·exact ⟨⟨_, rfl, .eq rfl⟩, ⟨_, rfl, .eq rfl⟩, trivial⟩
  ·exact ⟨fun _ => False, frz_same (Z := fun _ => False) rfl (fun q => q), frz_same (Z := fun _ => False) rfl (fun q => q), frz_same (Z := fun _ => False) rfl (fun q => q), frz_same (Z := fun _ => False) rfl (fun q => q), trivial⟩
  ·exact ⟨okF rfl nofun rfl rfl rfl ⟨rfl, rfl⟩ rfl, okF rfl nofun rfl rfl rfl ⟨rfl, rfl⟩ rfl, okF rfl nofun rfl rfl rfl ⟨rfl, rfl⟩ (by simp), okF rfl nofun rfl rfl rfl ⟨rfl, rfl⟩ rfl, trivial⟩
  conv => whnf
  refine ⟨⟨⟨_, rfl, .eq rfl⟩, ⟨_, rfl, .eq rfl⟩, ⟨_, rfl, .eq rfl⟩, ⟨_, rfl, .eq rfl⟩, trivial⟩, rfl, ?_⟩
  rintro w hw
  have hcl : (bads q n vals v ++ (List.range w).map (fun (w : Nat) => (⟨(w : Int), dig n v⟩ : Elem))).length ≤ 12288 + 3 := by simp; omega
  conv => whnf
  refine ⟨fun h4 => ?_, fun h4 => ?_⟩
  ·have hw' : w < vals := by
    have : (w : Int) < max 1 (p.values.length : Int) := of_decide_eq_true h4
    omega
   conv => whnf
   repeat (refine VC.mk (by first | (first | (simp only [capOk, lenRX, Rw.len, List.length_cons, List.length_nil, dig_len]; omega) | (show ((bads q n vals v ++ (List.range w).map (fun (w : Nat) => (⟨(w : Int), dig n v⟩ : Elem))).length + (0 + 1)) * 32 ≤ 140737488355328 ∧ (bads q n vals v ++ (List.range w).map (fun (w : Nat) => (⟨(w : Int), dig n v⟩ : Elem))).length + (0 + 1) ≤ 1152921504606846976; omega)) | (simp only [okI, Rw.rng] at *; first | omega | (simp_all; done) | (simp_all; omega))) ?_; conv => whnf)
   refine ⟨[(0, some (.box Y.api_Protocol 11 (.dat (.prot p)))), (1, some (.box Y.api_Property 7 (.dat (.prop q)))), (13, some (rowE ((bads q n vals v ++ (List.range w).map (fun (w : Nat) => ⟨(w : Int), dig n v⟩)) ++ [⟨(w : Int), dig n v⟩]))), (3, some (rowI (dig n v)))], w + 1, [0, 1, 13, 3], ⟨fun i => i = 10, frz_same (Z := fun i => i = 10) (i := 0) rfl (by decide), frz_same (Z := fun i => i = 10) (i := 1) rfl (by decide), frz_push (Z := fun i => i = 10) (i := 13) (j := 10) rfl (by decide) rfl rfl, frz_same (Z := fun i => i = 10) (i := 3) rfl (by decide), trivial⟩, by omega, by omega, ⟨⟨_, rfl, .eq rfl⟩, ⟨_, rfl, .eq rfl⟩, trivial⟩, ⟨⟨_, rfl, .eq rfl⟩, ⟨_, rfl, .eq rfl⟩, ⟨_, rfl, .eq rfl⟩, ⟨_, rfl, .eq rfl⟩, trivial⟩, okF rfl nofun rfl rfl rfl ⟨rfl, rfl⟩ rfl, okF rfl nofun rfl rfl rfl ⟨rfl, rfl⟩ rfl, okF rfl nofun rfl rfl rfl ⟨rfl, rfl⟩ ?_, okF rfl nofun rfl rfl rfl ⟨rfl, rfl⟩ rfl, trivial⟩
   rw [List.range_succ, List.map_append, ← List.append_assoc]; rfl
  ·have hw' : w = vals := by
    have : ¬ (w : Int) < max 1 (p.values.length : Int) := of_decide_eq_false h4
    omega
   rw [hw', ← hat, ← hbn]
   conv => whnf
   refine .mk (by first | (simp only [okI, dig_len]; omega) | omega) ?_
   conv => whnf
   refine LoopZ.objs 4 [2, 3] (fun k : Nat => [(8, .int ((n : Int) - 1 - k)), (5, .own 2), (6, .own 3)]) (fun k => [(0, .box Y.api_Protocol 11 (.dat (.prot p))), (1, .box Y.api_Property 7 (.dat (.prop q))), (2, rowE (bads q n vals (v + 1))), (3, rowI (back n v k))]) (fun k => k ≤ n ∧ v + 1 = (v / 4^k + 1) * 4^k) (fun k => n - k) 0 [0, 1, 2, 3] rfl (by decide) (fun _ => rfl) ⟨Nat.zero_le _, by simp⟩ ?_ ?_ ?_
   ·refine ⟨⟨_, rfl, .eq ?_⟩, ⟨_, rfl, .eq rfl⟩, ⟨_, rfl, .eq rfl⟩, trivial⟩
    show T.int ((n : Int) - 1 - ((0 : Nat) : Int)) = T.int (((dig n v).length : Int) - 1)
    rw [dig_len]; exact congrArg T.int (by omega)
   ·refine ⟨⟨rfl, nofun, rfl, rfl, rfl, _, rfl, rfl, rfl, SubA.of_eq rfl⟩, ⟨rfl, nofun, rfl, rfl, rfl, _, rfl, rfl, rfl, SubA.of_eq rfl⟩, ⟨rfl, nofun, rfl, rfl, rfl, _, rfl, rfl, rfl, SubA.of_eq rfl⟩, ⟨rfl, nofun, rfl, rfl, rfl, _, rfl, rfl, rfl, SubA.of_eq ?_⟩, trivial⟩
    rw [back_zero]
   conv => whnf
   refine ⟨⟨⟨_, rfl, .eq rfl⟩, ⟨_, rfl, .eq rfl⟩, trivial⟩, rfl, ?_⟩
   rintro k ⟨hk, hvk⟩
   have hbl := back_len (v := v) hk
   have hcell : k < n → (back n v k).getD (n - 1 - k) 0 = ((v / 4^k % 4 : Nat) : Int) := fun hkn => by
    rw [back_split hkn]; exact get_at (by rw [dig_len]; omega)
   have hti : ((n : Int) - 1 - k).toNat = n - 1 - k := by omega
   conv => whnf
   repeat (refine VC.mk (by first | exact fun h => h | (intro h; (repeat' apply And.intro) <;> first | exact h | omega | (simp only [Rw.rngE]; omega) | (simp only [Rw.rng]; omega)) | (simp only [okI, Rw.rng] at *; first | omega | (simp_all; done) | (simp_all; omega))) ?_; conv => whnf)
   refine ⟨fun h6 => ?_, fun h6 => ?_⟩
   ·rw [Bool.and_eq_true] at h6
    have hkn : k < n := by have := of_decide_eq_true h6.1; omega
    have h3 : v / 4^k % 4 = 3 := by
     have := beq_iff_eq.1 h6.2
     rw [hti, hcell hkn] at this; omega
    conv => whnf
    repeat (refine VC.mk (by first | (simp only [okI]; omega) | (simp only [Rw.rng, hbl]; omega)) ?_; conv => whnf)
    refine ⟨k + 1, [0, 1, 2, 3], ⟨by omega, back_step h3 hvk⟩, by omega, ⟨⟨_, rfl, .eq ?_⟩, ⟨_, rfl, .eq rfl⟩, ⟨_, rfl, .eq rfl⟩, trivial⟩, ⟨⟨_, rfl, .eq rfl⟩, ⟨_, rfl, .eq rfl⟩, trivial⟩, ⟨rfl, nofun, rfl, rfl, rfl, _, rfl, rfl, rfl, SubA.of_eq rfl⟩, ⟨rfl, nofun, rfl, rfl, rfl, _, rfl, rfl, rfl, SubA.of_eq rfl⟩, ⟨rfl, nofun, rfl, rfl, rfl, _, rfl, rfl, rfl, SubA.of_eq rfl⟩, ⟨rfl, nofun, rfl, rfl, rfl, _, rfl, rfl, rfl, SubA.of_eq ?_⟩, trivial⟩
    ·show T.int ((n : Int) - 1 - ((k + 1 : Nat) : Int)) = T.int ((n : Int) - 1 - (k : Int) - 1)
     exact congrArg T.int (by omega)
    ·rw [hti, back_next hkn, back_split hkn, set_at (by rw [dig_len]; omega)]
   conv => whnf
   refine ⟨fun h7 => ?_, fun h7 => ?_⟩
   ·have hkn : k = n := by have := of_decide_eq_true h7; omega
    subst hkn
    rw [last_eq hv hvk]
    conv => whnf
    refine CallZ.minimalOf rfl rfl (by have := bads_len (q := q) (n := k) (vals := vals) (u := 4^k); have h4 : 4^k * vals ≤ 4096 * 3 := Nat.mul_le_mul (Nat.pow_le_pow_right (by decide) (show k ≤ 6 from hn6)) hvals; omega) (bads_good hn6) ?_ (fun m => ?_)
    ·conv => whnf
     exact EndZ.ownE rfl
    ·conv => whnf
     exact EndZ.ovwE rfl
   ·have hkn : k < n := by have := of_decide_eq_false h7; omega
    have h3 : v / 4^k % 4 ≠ 3 := by
     rw [Bool.and_eq_false_iff] at h6
     rcases h6 with h6 | h6
     ·have := of_decide_eq_false h6; omega
     ·intro e
      have : ((back n v k).getD ((n : Int) - 1 - k).toNat 0 == 3) = false := h6
      rw [hti, hcell hkn, e] at this; exact absurd this (by decide)
    have hlt4 : v / 4^k % 4 < 4 := Nat.mod_lt _ (by decide)
    have hc0 := hcell hkn
    conv => whnf
    repeat (refine VC.mk (by first | (simp only [okI, hti, hc0]; omega) | (simp only [Rw.rng, hbl]; omega)) ?_; conv => whnf)
    refine ⟨v + 1, [0, 1, 2, 3], inc_lt hkn hv h3 hvk, by omega, ⟨⟨_, rfl, .eq rfl⟩, ⟨_, rfl, .eq rfl⟩, trivial⟩, ⟨⟨_, rfl, .eq rfl⟩, ⟨_, rfl, .eq rfl⟩, trivial⟩, ⟨rfl, nofun, rfl, rfl, rfl, _, rfl, rfl, rfl, SubA.of_eq rfl⟩, ⟨rfl, nofun, rfl, rfl, rfl, _, rfl, rfl, rfl, SubA.of_eq rfl⟩, ⟨rfl, nofun, rfl, rfl, rfl, _, rfl, rfl, rfl, SubA.of_eq rfl⟩, ⟨rfl, nofun, rfl, rfl, rfl, _, rfl, rfl, rfl, SubA.of_eq ?_⟩, trivial⟩
    rw [hti, hc0, ← back_inc hkn h3 hvk, back_split hkn, set_at (by rw [dig_len]; omega)]
 ·have hat : bads q n vals v = bads q n vals (v + 1) := by rw [bads_next, badAt, h3]; simp
  rw [hat]
  conv => whnf
  refine .mk (by first | (simp only [okI, dig_len]; omega) | omega) ?_
  conv => whnf
  refine LoopZ.objs 4 [2, 3] (fun k : Nat => [(8, .int ((n : Int) - 1 - k)), (5, .own 2), (6, .own 3)]) (fun k => [(0, .box Y.api_Protocol 11 (.dat (.prot p))), (1, .box Y.api_Property 7 (.dat (.prop q))), (2, rowE (bads q n vals (v + 1))), (3, rowI (back n v k))]) (fun k => k ≤ n ∧ v + 1 = (v / 4^k + 1) * 4^k) (fun k => n - k) 0 [0, 1, 2, 3] rfl (by decide) (fun _ => rfl) ⟨Nat.zero_le _, by simp⟩ ?_ ?_ ?_
  ·refine ⟨⟨_, rfl, .eq ?_⟩, ⟨_, rfl, .eq rfl⟩, ⟨_, rfl, .eq rfl⟩, trivial⟩
   show T.int ((n : Int) - 1 - ((0 : Nat) : Int)) = T.int (((dig n v).length : Int) - 1)
   rw [dig_len]; exact congrArg T.int (by omega)
  ·refine ⟨⟨rfl, nofun, rfl, rfl, rfl, _, rfl, rfl, rfl, SubA.of_eq rfl⟩, ⟨rfl, nofun, rfl, rfl, rfl, _, rfl, rfl, rfl, SubA.of_eq rfl⟩, ⟨rfl, nofun, rfl, rfl, rfl, _, rfl, rfl, rfl, SubA.of_eq rfl⟩, ⟨rfl, nofun, rfl, rfl, rfl, _, rfl, rfl, rfl, SubA.of_eq ?_⟩, trivial⟩
   rw [back_zero]
  conv => whnf
  refine ⟨⟨⟨_, rfl, .eq rfl⟩, ⟨_, rfl, .eq rfl⟩, trivial⟩, rfl, ?_⟩
  rintro k ⟨hk, hvk⟩
  have hbl := back_len (v := v) hk
  have hcell : k < n → (back n v k).getD (n - 1 - k) 0 = ((v / 4^k % 4 : Nat) : Int) := fun hkn => by
   rw [back_split hkn]; exact get_at (by rw [dig_len]; omega)
  have hti : ((n : Int) - 1 - k).toNat = n - 1 - k := by omega
  conv => whnf
  repeat (refine VC.mk (by first | exact fun h => h | (intro h; (repeat' apply And.intro) <;> first | exact h | omega | (simp only [Rw.rngE]; omega) | (simp only [Rw.rng]; omega)) | (simp only [okI, Rw.rng] at *; first | omega | (simp_all; done) | (simp_all; omega))) ?_; conv => whnf)
  refine ⟨fun h6 => ?_, fun h6 => ?_⟩
  ·rw [Bool.and_eq_true] at h6
   have hkn : k < n := by have := of_decide_eq_true h6.1; omega
   have h3 : v / 4^k % 4 = 3 := by
    have := beq_iff_eq.1 h6.2
    rw [hti, hcell hkn] at this; omega
   conv => whnf
   repeat (refine VC.mk (by first | (simp only [okI]; omega) | (simp only [Rw.rng, hbl]; omega)) ?_; conv => whnf)
   refine ⟨k + 1, [0, 1, 2, 3], ⟨by omega, back_step h3 hvk⟩, by omega, ⟨⟨_, rfl, .eq ?_⟩, ⟨_, rfl, .eq rfl⟩, ⟨_, rfl, .eq rfl⟩, trivial⟩, ⟨⟨_, rfl, .eq rfl⟩, ⟨_, rfl, .eq rfl⟩, trivial⟩, ⟨rfl, nofun, rfl, rfl, rfl, _, rfl, rfl, rfl, SubA.of_eq rfl⟩, ⟨rfl, nofun, rfl, rfl, rfl, _, rfl, rfl, rfl, SubA.of_eq rfl⟩, ⟨rfl, nofun, rfl, rfl, rfl, _, rfl, rfl, rfl, SubA.of_eq rfl⟩, ⟨rfl, nofun, rfl, rfl, rfl, _, rfl, rfl, rfl, SubA.of_eq ?_⟩, trivial⟩
   ·show T.int ((n : Int) - 1 - ((k + 1 : Nat) : Int)) = T.int ((n : Int) - 1 - (k : Int) - 1)
    exact congrArg T.int (by omega)
   ·rw [hti, back_next hkn, back_split hkn, set_at (by rw [dig_len]; omega)]
  conv => whnf
  refine ⟨fun h7 => ?_, fun h7 => ?_⟩
  ·have hkn : k = n := by have := of_decide_eq_true h7; omega
   subst hkn
   rw [last_eq hv hvk]
   conv => whnf
   refine CallZ.minimalOf rfl rfl (by have := bads_len (q := q) (n := k) (vals := vals) (u := 4^k); have h4 : 4^k * vals ≤ 4096 * 3 := Nat.mul_le_mul (Nat.pow_le_pow_right (by decide) (show k ≤ 6 from hn6)) hvals; omega) (bads_good hn6) ?_ (fun m => ?_)
   ·conv => whnf
    exact EndZ.ownE rfl
   ·conv => whnf
    exact EndZ.ovwE rfl
  ·have hkn : k < n := by have := of_decide_eq_false h7; omega
   have h3 : v / 4^k % 4 ≠ 3 := by
    rw [Bool.and_eq_false_iff] at h6
    rcases h6 with h6 | h6
    ·have := of_decide_eq_false h6; omega
    ·intro e
     have : ((back n v k).getD ((n : Int) - 1 - k).toNat 0 == 3) = false := h6
     rw [hti, hcell hkn, e] at this; exact absurd this (by decide)
   have hlt4 : v / 4^k % 4 < 4 := Nat.mod_lt _ (by decide)
   have hc0 := hcell hkn
   conv => whnf
   repeat (refine VC.mk (by first | (simp only [okI, hti, hc0]; omega) | (simp only [Rw.rng, hbl]; omega)) ?_; conv => whnf)
   refine ⟨v + 1, [0, 1, 2, 3], inc_lt hkn hv h3 hvk, by omega, ⟨⟨_, rfl, .eq rfl⟩, ⟨_, rfl, .eq rfl⟩, trivial⟩, ⟨⟨_, rfl, .eq rfl⟩, ⟨_, rfl, .eq rfl⟩, trivial⟩, ⟨rfl, nofun, rfl, rfl, rfl, _, rfl, rfl, rfl, SubA.of_eq rfl⟩, ⟨rfl, nofun, rfl, rfl, rfl, _, rfl, rfl, rfl, SubA.of_eq rfl⟩, ⟨rfl, nofun, rfl, rfl, rfl, _, rfl, rfl, rfl, SubA.of_eq rfl⟩, ⟨rfl, nofun, rfl, rfl, rfl, _, rfl, rfl, rfl, SubA.of_eq ?_⟩, trivial⟩
   rw [hti, hc0, ← back_inc hkn h3 hvk, back_split hkn, set_at (by rw [dig_len]; omega)]
def smB (q : Prop') (c : List Int) : Bool := demB q c && (List.range c.length).all fun x => c.getD x 0 == 0 || !(demB q (addAt c x (-1)))
theorem add_back {c : List Int} {i : Nat} (hi : i < c.length) : (c.set i (c.getD i 0 - 1)).set i ((c.set i (c.getD i 0 - 1)).getD i 0 + 1) = c := by
 have e : (c.set i (c.getD i 0 - 1)).getD i 0 = c.getD i 0 - 1 := by simp [List.getD_eq_getElem?_getD, hi]
 rw [e, List.set_set, show c.getD i 0 - 1 + 1 = c[i] by simp [hi], List.set_getElem_self]
theorem few_dec {c : List Int} {i : Nat} (h : few c) (h0 : c.getD i 0 ≠ 0) : few (c.set i (c.getD i 0 - 1)) := by
 intro x hx
 rcases List.mem_or_eq_of_mem_set hx with hx | rfl
 ·exact h x hx
 ·have := h.get i; omega
theorem S.r05_smallest (q : Prop') (c : List Int) (f : Bool) (hq : SmallQ q) (hb : BadF c.length q) (hc : few c) (hl : c.length < 2^30) : SpecZ Tryz.prog F.r05_smallest [.dat (.prop q), .row 0 f (.ints c)] (.bool (smB q c)) := by
 refine SpecZ.of Bd.r05_smallest (by simp) rfl rfl ?_
 conv => whnf
 refine CallZ.pure (S.r05_Demanded q c f hq hb hc hl) rfl ?_
 conv => whnf
 refine ⟨fun h1 => ?_, fun h1 => ?_⟩
 ·conv => whnf
  exact EndZ.bool (by rw [smB, show demB q c = false by simpa using h1]; rfl)
 have hd : demB q c = true := by simpa using h1
 conv => whnf
 refine .mk (by simp only [capOk, lenRX, Rw.len]; omega) ?_
 conv => whnf
 refine LoopZ.objs 2 [2] (fun x : Nat => [(6, .int x), (5, .own 1)]) (fun x => [(0, .box Y.api_Property 7 (.dat (.prop q))), (1, rowI c)]) (fun x => x ≤ c.length ∧ (List.range x).all (fun x => c.getD x 0 == 0 || !(demB q (addAt c x (-1)))) = true) (fun x => c.length - x) 0 [0, 8] rfl (by decide) (fun _ => rfl) ⟨Nat.zero_le _, rfl⟩ ?_ ?_ ?_
 ·exact ⟨⟨_, rfl, .eq rfl⟩, ⟨_, rfl, .eq rfl⟩, trivial⟩
 ·exact ⟨⟨rfl, nofun, rfl, rfl, rfl, _, rfl, rfl, rfl, SubA.of_eq rfl⟩, ⟨rfl, nofun, rfl, rfl, rfl, _, rfl, rfl, rfl, SubA.of_eq rfl⟩, trivial⟩
 conv => whnf
 refine ⟨⟨⟨_, rfl, .eq rfl⟩, trivial⟩, rfl, ?_⟩
 rintro x ⟨hx, hall⟩
 have hnext : ∀ b : Bool, (c.getD x 0 == 0 || !(demB q (addAt c x (-1)))) = b → (List.range (x + 1)).all (fun x => c.getD x 0 == 0 || !(demB q (addAt c x (-1)))) = b := by
  intro b hb
  rw [List.range_succ, List.all_append, hall]
  simp only [List.all_cons, List.all_nil, Bool.and_true, Bool.true_and]; exact hb
 conv => whnf
 refine ⟨fun h3 => ?_, fun h3 => ?_⟩
 ·have hx' : x < c.length := by simpa using h3
  conv => whnf
  repeat (refine VC.mk (by simp only [okI, Rw.rng] at *; omega) ?_; conv => whnf)
  refine ⟨fun h4 => ?_, fun h4 => ?_⟩
  ·conv => whnf
   refine .mk (by simp only [okI, Rw.rng] at *; omega) ?_
   conv => whnf
   refine ⟨x + 1, [0, 1], ⟨by omega, hnext true (by rw [show (c.getD x 0 == 0) = true from h4]; rfl)⟩, by omega, ⟨⟨_, rfl, .eq rfl⟩, ⟨_, rfl, .eq rfl⟩, trivial⟩, ⟨⟨_, rfl, .eq rfl⟩, trivial⟩, ⟨rfl, nofun, rfl, rfl, rfl, _, rfl, rfl, rfl, SubA.of_eq rfl⟩, ⟨rfl, nofun, rfl, rfl, rfl, _, rfl, rfl, rfl, SubA.of_eq rfl⟩, trivial⟩
  ·have h0 : c.getD x 0 ≠ 0 := by
    have : (c.getD x 0 == 0) = false := h4
    simpa using this
   have hg := hc.get x
   have hf := few_dec hc h0
   have hlen : (c.set x (c.getD x 0 - 1)).length = c.length := by simp
   conv => whnf
   repeat (refine VC.mk (by first | (simp only [okI, Int.toNat_natCast]; omega) | (simp only [Rw.rng, List.length_set]; omega)) ?_; conv => whnf)
   refine CallZ.lend (S.r05_Demanded q (c.set x (c.getD x 0 - 1)) false hq (by rw [hlen]; exact hb) hf (by rw [hlen]; exact hl)) (And.intro (sub_refl _) (And.intro (lendI trivial rfl) trivial)) rfl rfl ?_
   conv => whnf
   refine ⟨fun h5 => ?_, fun h5 => ?_⟩
   ·conv => whnf
    refine EndZ.bool ?_
    have e1 : (c.getD x 0 == 0 || !(demB q (addAt c x (-1)))) = false := by
     rw [show (c.getD x 0 == 0) = false from h4, show demB q (addAt c x (-1)) = true from h5]; rfl
    rw [smB, hd, Bool.true_and, Bool.eq_false_iff]
    intro hc2
    rw [List.all_eq_true] at hc2
    have := hc2 x (List.mem_range.2 hx')
    rw [e1] at this; cases this
   ·have hg2 : (c.set x (c.getD x 0 - 1)).getD x 0 = c.getD x 0 - 1 := by simp [List.getD_eq_getElem?_getD, hx']
    conv => whnf
    repeat (refine VC.mk (by first | (simp only [okI, Int.toNat_natCast, hg2]; omega) | (simp only [Rw.rng, List.length_set]; omega)) ?_; conv => whnf)
    refine ⟨x + 1, [0, 1], ⟨by omega, hnext true (by rw [show demB q (addAt c x (-1)) = false from h5]; simp)⟩, by omega, ⟨⟨_, rfl, .eq rfl⟩, ⟨_, rfl, .eq rfl⟩, trivial⟩, ⟨⟨_, rfl, .eq rfl⟩, trivial⟩, ⟨rfl, nofun, rfl, rfl, rfl, _, rfl, rfl, rfl, SubA.of_eq rfl⟩, ⟨rfl, nofun, rfl, rfl, rfl, _, rfl, rfl, rfl, SubA.of_eq ?_⟩, trivial⟩
    have := add_back hx'
    show (rowI c).toOb.l = (rowI ((c.set x (c.getD x 0 - 1)).set x ((c.set x (c.getD x 0 - 1)).getD x 0 + 1))).toOb.l
    rw [this]
 ·have hx' : x = c.length := by
   have : ¬ ((x : Int) < (c.length : Int)) := of_decide_eq_false h3
   omega
  subst hx'
  conv => whnf
  exact EndZ.bool (by rw [smB, hd, hall]; rfl)
abbrev rowII (l : List (List Int)) : OV := .row Y.Lint 0 (.intss l) []
theorem ints_free (l : List (List Int)) : T.freeL (l.map Go.Ab.ints) = true := by
 rw [freeL_iff]; intro t ht; obtain ⟨x, _, rfl⟩ := List.mem_map.1 ht; rfl
theorem lendII {h : Hz} {j : Nat} {Z : Nat → Prop} {l : List (List Int)} (hz : Z j) (q : h.get j = some (rowII l)) : T.sub Z h.toHp (V.row 0 false (.intss l)).toT (V.own j).toT := by
 show T.sub Z h.toHp (.sl 0 false (l.map Go.Ab.ints)) (.own j)
 simp only [T.sub]
 refine ⟨trivial, hz, ints_free l, by decide, Y.Lint, ?_⟩
 have := toHp_some q; simpa [OV.toOb, Rw.toL, V.toL] using this
theorem EndZ.ownII {h : Hz} {j : Nat} {l : List (List Int)} (q : h.get j = some (rowII l)) : EndZ (.row 0 false (.intss l)) (.own j) h := ⟨lendII trivial q⟩
theorem frz_pushI {Z : Nat → Prop} {h : Hz} {i j : Nat} {r : Rw} {l : List (List Int)} {c : List Int} (q : h.get i = some (.row Y.Lint 0 r [.own j])) (hr : r.toL = l.map Go.Ab.ints) (hi : ¬ Z i) (hz : Z j) (qj : h.get j = some (rowI c)) :
  ∃ o', h.get i = some o' ∧ ¬ Z i ∧ o'.toOb.ty = (rowII (l ++ [c])).toOb.ty ∧ o'.toOb.k = (rowII (l ++ [c])).toOb.k ∧ T.subL Z h.toHp (rowII (l ++ [c])).toOb.l o'.toOb.l ∧ (rowII (l ++ [c])).toOb.l.map T.kd = o'.toOb.l.map T.kd ∧ (rowII (l ++ [c])).toOb.l.map isEnt = o'.toOb.l.map isEnt := by
 have e1 : (rowII (l ++ [c])).toOb.l = r.toL ++ [Go.Ab.ints c] := by rw [hr]; simp [rowII, OV.toOb, Rw.toL, V.toL]
 refine ⟨_, q, hi, rfl, rfl, ?_, ?_, ?_⟩
 ·rw [e1]
  exact subL_append (subL_refl _) ⟨lendI hz qj, trivial⟩
 ·rw [e1]; show _ = List.map T.kd (r.toL ++ [.own j])
  rw [List.map_append, List.map_append]; rfl
 ·rw [e1]; show _ = List.map isEnt (r.toL ++ [.own j])
  rw [List.map_append, List.map_append]; rfl
theorem dig_cons {k : Nat} (hk : k < 4) : ∀ {m u : Nat}, u < 4^m → dig (m + 1) (k * 4^m + u) = (k : Int) :: dig m u := by
 intro m
 induction m with
 | zero =>
  intro u hu
  have h : u = 0 := (by simpa using hu)
  subst h
  simp only [dig, Nat.pow_zero, Nat.mul_one, Nat.add_zero, List.nil_append]
  rw [Nat.mod_eq_of_lt hk]
 | succ m ih =>
  intro u hu
  rw [Nat.pow_succ] at hu
  have e : k * 4^(m + 1) = k * 4^m * 4 := by rw [Nat.pow_succ, Nat.mul_assoc]
  rw [e, dig]
  rw [show (k * 4^m * 4 + u) / 4 = k * 4^m + u / 4 by omega, show (k * 4^m * 4 + u) % 4 = u % 4 by omega, ih (show u / 4 < 4^m by omega), dig]
  rfl
theorem range_mul {α : Type} {M : Nat} {f : Nat → α} : ∀ {a : Nat}, (List.range (a * M)).map f = (List.range a).flatMap fun k => (List.range M).map fun u => f (k * M + u) := by
 intro a
 induction a with
 | zero => simp
 | succ a ih =>
  rw [Nat.succ_mul, List.range_add, List.map_append, ih, List.range_succ, List.flatMap_append]
  simp
def allC (n : Nat) : List (List Int) := (List.range (4^n)).map (dig n)
def outs (n j : Nat) : List (List Int) := (List.range (4^(n - j))).map fun u => List.replicate j 0 ++ dig (n - j) u
def nextK (n j k : Nat) : List (List Int) := (List.range k).flatMap fun k => (outs n (j + 1)).map fun c => c.set j (k : Int)
theorem nextK_succ {n j k : Nat} : nextK n j (k + 1) = nextK n j k ++ (outs n (j + 1)).map fun c => c.set j (k : Int) := by
 unfold nextK
 rw [List.range_succ, List.flatMap_append]; simp
theorem outs_len {n j : Nat} (hn : n ≤ 6) : (outs n j).length ≤ 4096 := by
 simp only [outs, List.length_map, List.length_range]
 have : 4^(n - j) ≤ 4^6 := Nat.pow_le_pow_right (by decide) (by omega)
 exact this
theorem nextK_len {n j k : Nat} (hn : n ≤ 6) : (nextK n j k).length ≤ k * 4096 := by
 induction k with
 | zero => simp [nextK]
 | succ k ih =>
  rw [nextK_succ, List.length_append, List.length_map, Nat.succ_mul]
  have := @outs_len n (j + 1) hn
  omega
theorem nextK_four {n j : Nat} (hj : j < n) : nextK n j 4 = outs n j := by
 have e : n - j = (n - (j + 1)) + 1 := by omega
 unfold nextK outs
 rw [e, Nat.pow_succ, Nat.mul_comm, range_mul]
 refine congrArg List.flatten (List.map_congr_left fun k hk => ?_)
 rw [List.map_map]
 refine List.map_congr_left fun u hu => ?_
 rw [dig_cons (List.mem_range.1 hk) (List.mem_range.1 hu)]
 show (List.replicate (j + 1) 0 ++ dig (n - (j + 1)) u).set j (k : Int) = _
 rw [List.replicate_succ', List.append_assoc]
 exact set_at (by simp)
theorem outs_all {n : Nat} : outs n 0 = allC n := by simp [outs, allC]
theorem outs_mem {n j : Nat} (hj : j ≤ n) {c : List Int} (h : c ∈ outs n j) : c.length = n := by
 obtain ⟨u, _, rfl⟩ := List.mem_map.1 h
 simp [dig_len]; omega
set_option maxHeartbeats 1000000 in
theorem S.r05_All (n : Nat) (hn0 : 0 < n) (hn6 : n ≤ 6) : SpecZ Tryz.prog F.r05_All [.int n, .int 3] (.row 0 false (.intss (allC n))) := by
 refine SpecZ.of Bd.r05_All (by simp) rfl rfl ?_
 conv => whnf
 have hm := makeInts (n := n) hn0
 rw [hm]
 conv => whnf
 repeat (refine VC.mk (by first | (omega) | (simp only [okI, Rw.rng] at *; omega)) ?_; conv => whnf)
 refine LoopZ.objsF 1 [0, 1] (fun j : Nat => [(6, .int ((j : Int) - 1)), (5, .own 0)]) (fun j => [(0, rowII (outs n j))]) (fun j => j ≤ n) (fun j => j) n [3] [(3, some (rowII ([] ++ [List.replicate n 0])))] rfl (by decide) (fun _ => rfl) (Nat.le_refl _) ?_ ?_ ?_ ?_
 ·exact ⟨⟨_, rfl, .eq rfl⟩, ⟨_, rfl, .eq rfl⟩, trivial⟩
 ·exact ⟨fun i => i = 2, frz_pushI (Z := fun i => i = 2) (i := 3) (j := 2) rfl rfl (by decide) rfl rfl, trivial⟩
 ·exact ⟨okF rfl nofun rfl rfl rfl ⟨rfl, rfl⟩ (by simp [outs, dig]), trivial⟩
 conv => whnf
 refine ⟨⟨⟨_, rfl, .eq rfl⟩, ⟨_, rfl, .eq rfl⟩, trivial⟩, rfl, ?_⟩
 rintro j hj
 conv => whnf
 refine ⟨fun h3 => ?_, fun h3 => ?_⟩
 ·obtain ⟨j, rfl⟩ : ∃ i, j = i + 1 := ⟨j - 1, by have := of_decide_eq_true h3; omega⟩
  have ej : (((j + 1 : Nat) : Int) - 1) = (j : Int) := by omega
  rw [ej]
  conv => whnf
  refine LoopZ.nil 7 Y.Lint 0 (by rfl) rfl rfl rfl ?_
  refine LoopZ.objs 2 [0, 1, 5, 6] (fun k : Nat => [(8, .int k), (7, .own 1)]) (fun k => [(0, rowII (outs n (j + 1))), (1, rowII (nextK n j k))]) (fun k => k ≤ 4) (fun k => 4 - k) 0 [0, 5] rfl (by decide) (fun _ => rfl) (Nat.zero_le _) ?_ ?_ ?_
  ·exact ⟨⟨_, rfl, .eq rfl⟩, ⟨_, rfl, .eq rfl⟩, trivial⟩
  ·exact ⟨⟨rfl, nofun, rfl, rfl, rfl, _, rfl, rfl, rfl, SubA.of_eq rfl⟩, ⟨rfl, nofun, rfl, rfl, rfl, _, rfl, rfl, rfl, SubA.of_eq rfl⟩, trivial⟩
  conv => whnf
  refine ⟨⟨⟨_, rfl, .eq rfl⟩, ⟨_, rfl, .eq rfl⟩, ⟨_, rfl, .eq rfl⟩, ⟨_, rfl, .eq rfl⟩, trivial⟩, rfl, ?_⟩
  rintro k hk
  have hkl := @nextK_len n j k hn6
  have hol := @outs_len n (j + 1) hn6
  conv => whnf
  refine ⟨fun h4 => ?_, fun h4 => ?_⟩
  ·have hk3 : k ≤ 3 := by have := of_decide_eq_true h4; omega
   conv => whnf
   refine LoopZ.objsF 2 [0, 1, 5, 6, 8] (fun i : Nat => [(9, .int i), (7, .own 1)]) (fun i => [(0, rowII (outs n (j + 1))), (1, rowII (nextK n j k ++ ((outs n (j + 1)).take i).map fun c => c.set j (k : Int)))]) (fun i => i ≤ (outs n (j + 1)).length) (fun i => (outs n (j + 1)).length - i) 0 [0, 1] [(0, some (rowII (outs n (j + 1)))), (1, some (rowII (nextK n j k)))] rfl (by decide) (fun _ => rfl) (Nat.zero_le _) ?_ ?_ ?_ ?_
   ·exact ⟨⟨_, rfl, .eq rfl⟩, ⟨_, rfl, .eq rfl⟩, trivial⟩
   ·exact ⟨fun _ => False, frz_same (Z := fun _ => False) rfl (fun q => q), frz_same (Z := fun _ => False) rfl (fun q => q), trivial⟩
   ·exact ⟨okF rfl nofun rfl rfl rfl ⟨rfl, rfl⟩ rfl, okF rfl nofun rfl rfl rfl ⟨rfl, rfl⟩ (by simp), trivial⟩
   conv => whnf
   refine ⟨⟨⟨_, rfl, .eq rfl⟩, ⟨_, rfl, .eq rfl⟩, ⟨_, rfl, .eq rfl⟩, ⟨_, rfl, .eq rfl⟩, ⟨_, rfl, .eq rfl⟩, trivial⟩, rfl, ?_⟩
   rintro i hi
   have hal : (nextK n j k ++ ((outs n (j + 1)).take i).map fun c => c.set j (k : Int)).length ≤ 5 * 4096 := by
    rw [List.length_append, List.length_map, List.length_take]; omega
   conv => whnf
   refine ⟨fun h5 => ?_, fun h5 => ?_⟩
   ·have hi' : i < (outs n (j + 1)).length := by simpa using h5
    have hcl : ((outs n (j + 1)).getD i []).length = n := outs_mem hj (getD_mem hi')
    conv => whnf
    repeat (refine VC.mk (by first | (first | (simp only [capOk, lenRX, Rw.len, Int.toNat_natCast, hcl]; omega) | (simp only [Rw.rng, Int.toNat_natCast, hcl]; omega) | (show ((nextK n j k ++ ((outs n (j + 1)).take i).map fun c => c.set j (k : Int)).length + (0 + 1)) * 24 ≤ 140737488355328 ∧ (nextK n j k ++ ((outs n (j + 1)).take i).map fun c => c.set j (k : Int)).length + (0 + 1) ≤ 1152921504606846976; omega)) | (simp only [okI, Rw.rng] at *; omega)) ?_; conv => whnf)
    refine ⟨[(0, some (rowII (outs n (j + 1)))), (21, some (rowII ((nextK n j k ++ ((outs n (j + 1)).take i).map fun c => c.set j (k : Int)) ++ [((outs n (j + 1)).getD i []).set j (k : Int)])))], i + 1, [0, 21], ⟨fun i => i = 11, frz_same (Z := fun i => i = 11) (i := 0) rfl (by decide), frz_pushI (Z := fun i => i = 11) (i := 21) (j := 11) rfl rfl (by decide) rfl rfl, trivial⟩, by omega, by omega, ⟨⟨_, rfl, .eq rfl⟩, ⟨_, rfl, .eq rfl⟩, trivial⟩, ⟨⟨_, rfl, .eq rfl⟩, ⟨_, rfl, .eq rfl⟩, ⟨_, rfl, .eq rfl⟩, ⟨_, rfl, .eq rfl⟩, ⟨_, rfl, .eq rfl⟩, trivial⟩, okF rfl nofun rfl rfl rfl ⟨rfl, rfl⟩ rfl, okF rfl nofun rfl rfl rfl ⟨rfl, rfl⟩ ?_, trivial⟩
    have ht : (outs n (j + 1)).take (i + 1) = (outs n (j + 1)).take i ++ [(outs n (j + 1)).getD i []] := by rw [List.take_add_one]; simp [hi']
    rw [ht, List.map_append, ← List.append_assoc]; rfl
   ·have hi' : i = (outs n (j + 1)).length := by
     have : ¬ ((i : Int) < ((outs n (j + 1)).length : Int)) := of_decide_eq_false h5
     omega
    subst hi'
    rw [List.take_length, ← nextK_succ]
    conv => whnf
    refine .mk (by first | (simp only [okI]; omega) | omega) ?_
    conv => whnf
    refine ⟨k + 1, [0, 1], by omega, by omega, ⟨⟨_, rfl, .eq rfl⟩, ⟨_, rfl, .eq rfl⟩, trivial⟩, ⟨⟨_, rfl, .eq rfl⟩, ⟨_, rfl, .eq rfl⟩, ⟨_, rfl, .eq rfl⟩, ⟨_, rfl, .eq rfl⟩, trivial⟩, ⟨rfl, nofun, rfl, rfl, rfl, _, rfl, rfl, rfl, SubA.of_eq rfl⟩, ⟨rfl, nofun, rfl, rfl, rfl, _, rfl, rfl, rfl, SubA.of_eq rfl⟩, trivial⟩
  ·have hk4 : k = 4 := by have := of_decide_eq_false h4; omega
   subst hk4
   rw [nextK_four (by omega)]
   conv => whnf
   refine .mk (by first | (simp only [okI]; omega) | omega) ?_
   conv => whnf
   refine ⟨[(1, some (rowII (outs n j)))], j, [1], ⟨fun _ => False, frz_same (Z := fun _ => False) rfl (fun q => q), trivial⟩, by omega, by omega, ⟨⟨_, rfl, .eq rfl⟩, ⟨_, rfl, .eq rfl⟩, trivial⟩, ⟨⟨_, rfl, .eq rfl⟩, ⟨_, rfl, .eq rfl⟩, trivial⟩, okF rfl nofun rfl rfl rfl ⟨rfl, rfl⟩ rfl, trivial⟩
 ·have hj0 : j = 0 := by have := of_decide_eq_false h3; omega
  subst hj0
  rw [outs_all]
  conv => whnf
  exact EndZ.ownII rfl
def smA (q : Prop') (n : Nat) (w i : Nat) : List Elem := ((List.range i).filter fun u => smB q (dig n u)).map fun u => ⟨(w : Int), dig n u⟩
def refBad (q : Prop') (n vals : Nat) : List Elem := (List.range vals).flatMap fun w => smA q n w (4^n)
theorem smA_succ {q : Prop'} {n w i : Nat} : smA q n w (i + 1) = smA q n w i ++ bif smB q (dig n i) then [⟨(w : Int), dig n i⟩] else [] := by
 unfold smA
 rw [List.range_succ, List.filter_append, List.map_append]
 congr 1
 cases h : smB q (dig n i) <;> simp [h]
theorem smA_len {q : Prop'} {n w i : Nat} : (smA q n w i).length ≤ i := by
 unfold smA
 rw [List.length_map]
 have := List.length_filter_le (fun u => smB q (dig n u)) (List.range i)
 simpa using this
theorem refBad_succ {q : Prop'} {n v : Nat} : refBad q n (v + 1) = refBad q n v ++ smA q n v (4^n) := by
 unfold refBad
 rw [List.range_succ, List.flatMap_append]; simp
theorem refBad_len {q : Prop'} {n v : Nat} : (refBad q n v).length ≤ v * 4^n := by
 induction v with
 | zero => simp [refBad]
 | succ v ih =>
  rw [refBad_succ, List.length_append, Nat.succ_mul]
  have := @smA_len q n v (4^n); omega
theorem allC_get {n i : Nat} (hi : i < 4^n) : (allC n).getD i [] = dig n i := by
 unfold allC; simp [List.getD_eq_getElem?_getD, hi]
set_option maxHeartbeats 1000000 in
theorem S.r05_bad (p : Prot) (q : Prop') (n vals : Nat) (hp : SmallP p) (hq : SmallQ q) (hn : p.states.length = n) (hn0 : 0 < n) (hn6 : n ≤ 6) (hvs : max 1 p.values.length = vals) (hvals : vals ≤ 3) (hb : BadF n q) :
  SpecZ Tryz.prog F.r05_bad [.dat (.prot p), .dat (.prop q)] (.row 3 false (.elems (refBad q n vals))) := by
 have h46 : 4^n ≤ 4096 := Nat.pow_le_pow_right (by decide) (show n ≤ 6 from hn6)
 have hAl : (allC n).length = 4^n := by simp [allC]
 have hA := S.r05_All n hn0 hn6
 rw [← hn] at hA
 refine SpecZ.of Bd.r05_bad (by simp) rfl rfl ?_
 conv => whnf
 refine CallZ.pure (hA) rfl ?_
 conv => whnf
 rw [hn]
 refine LoopZ.nil 6 Y.api_Element 3 (by rfl) rfl rfl rfl ?_
 refine LoopZ.objs 3 [2, 3, 5] (fun v : Nat => [(7, .int v), (6, .own 2)]) (fun v => [(0, .box Y.api_Protocol 11 (.dat (.prot p))), (1, .box Y.api_Property 7 (.dat (.prop q))), (2, rowE (refBad q n v))]) (fun v => v ≤ vals) (fun v => vals - v) 0 [0, 1, 10] rfl (by decide) (fun _ => rfl) (Nat.zero_le _) ?_ ?_ ?_
 ·exact ⟨⟨_, rfl, .eq rfl⟩, ⟨_, rfl, .eq rfl⟩, trivial⟩
 ·exact ⟨⟨rfl, nofun, rfl, rfl, rfl, _, rfl, rfl, rfl, SubA.of_eq rfl⟩, ⟨rfl, nofun, rfl, rfl, rfl, _, rfl, rfl, rfl, SubA.of_eq rfl⟩, ⟨rfl, nofun, rfl, rfl, rfl, _, rfl, rfl, rfl, SubA.of_eq rfl⟩, trivial⟩
 conv => whnf
 refine ⟨⟨⟨_, rfl, .eq rfl⟩, ⟨_, rfl, .eq rfl⟩, ⟨_, rfl, .eq rfl⟩, trivial⟩, rfl, ?_⟩
 rintro v hv
 have hrl := refBad_len (q := q) (n := n) (v := v)
 have hr2 : v * 4^n ≤ 3 * 4096 := Nat.mul_le_mul (by omega) h46
 conv => whnf
 refine ⟨fun h3 => ?_, fun h3 => ?_⟩
 ·have hv' : v < vals := by
   have : (v : Int) < max 1 (p.values.length : Int) := of_decide_eq_true h3
   omega
  conv => whnf
  refine LoopZ.objsF 3 [2, 3, 5, 7] (fun i : Nat => [(8, .int i), (6, .own 2)]) (fun i => [(0, .box Y.api_Protocol 11 (.dat (.prot p))), (1, .box Y.api_Property 7 (.dat (.prop q))), (2, rowE (refBad q n v ++ smA q n v i))]) (fun i => i ≤ 4^n) (fun i => 4^n - i) 0 [0, 1, 2] [(0, some (.box Y.api_Protocol 11 (.dat (.prot p)))), (1, some (.box Y.api_Property 7 (.dat (.prop q)))), (2, some (rowE (refBad q n v)))] rfl (by decide) (fun _ => rfl) (Nat.zero_le _) ?_ ?_ ?_ ?_
  ·exact ⟨⟨_, rfl, .eq rfl⟩, ⟨_, rfl, .eq rfl⟩, trivial⟩
  ·exact ⟨fun _ => False, frz_same (Z := fun _ => False) rfl (fun q => q), frz_same (Z := fun _ => False) rfl (fun q => q), frz_same (Z := fun _ => False) rfl (fun q => q), trivial⟩
  ·exact ⟨okF rfl nofun rfl rfl rfl ⟨rfl, rfl⟩ rfl, okF rfl nofun rfl rfl rfl ⟨rfl, rfl⟩ rfl, okF rfl nofun rfl rfl rfl ⟨rfl, rfl⟩ (by simp [smA]), trivial⟩
  conv => whnf
  refine ⟨⟨⟨_, rfl, .eq rfl⟩, ⟨_, rfl, .eq rfl⟩, ⟨_, rfl, .eq rfl⟩, ⟨_, rfl, .eq rfl⟩, trivial⟩, rfl, ?_⟩
  rintro i hi
  have hsl := @smA_len q n v i
  have hal : (refBad q n v ++ smA q n v i).length ≤ 4 * 4096 := by rw [List.length_append]; omega
  conv => whnf
  refine ⟨fun h4 => ?_, fun h4 => ?_⟩
  ·have hi' : i < 4^n := by
    have : (i : Int) < ((allC n).length : Int) := of_decide_eq_true h4
    omega
   have hget := allC_get hi'
   have hss := @smA_succ q n v i
   conv => whnf
   refine .mk (by simp only [Rw.rng, Int.toNat_natCast, hAl]; omega) ?_
   conv => whnf
   rw [show (allC n).getD (i : Int).toNat [] = dig n i from hget]
   refine CallZ.pure (S.r05_smallest q (dig n i) false hq (by rw [dig_len]; exact hb) dig_few (by rw [dig_len]; omega)) rfl ?_
   conv => whnf
   refine ⟨fun h5 => ?_, fun h5 => ?_⟩
   ·rw [h5] at hss
    conv => whnf
    repeat (refine VC.mk (by first | (first | (simp only [Rw.rng, Int.toNat_natCast, hAl]; omega) | (simp only [capOk, lenRX, Rw.len, Int.toNat_natCast]; rw [hget, dig_len]; omega) | (show ((refBad q n v ++ smA q n v i).length + (0 + 1)) * 32 ≤ 140737488355328 ∧ (refBad q n v ++ smA q n v i).length + (0 + 1) ≤ 1152921504606846976; omega)) | (simp only [okI, Rw.rng] at *; omega)) ?_; conv => whnf)
    refine ⟨[(0, some (.box Y.api_Protocol 11 (.dat (.prot p)))), (1, some (.box Y.api_Property 7 (.dat (.prop q)))), (23, some (rowE ((refBad q n v ++ smA q n v i) ++ [⟨(v : Int), (allC n).getD (i : Int).toNat []⟩])))], i + 1, [0, 1, 23], ⟨fun i => i = 20, frz_same (Z := fun i => i = 20) (i := 0) rfl (by decide), frz_same (Z := fun i => i = 20) (i := 1) rfl (by decide), frz_push (Z := fun i => i = 20) (i := 23) (j := 20) rfl (by decide) rfl rfl, trivial⟩, by omega, by omega, ⟨⟨_, rfl, .eq rfl⟩, ⟨_, rfl, .eq rfl⟩, trivial⟩, ⟨⟨_, rfl, .eq rfl⟩, ⟨_, rfl, .eq rfl⟩, ⟨_, rfl, .eq rfl⟩, ⟨_, rfl, .eq rfl⟩, trivial⟩, okF rfl nofun rfl rfl rfl ⟨rfl, rfl⟩ rfl, okF rfl nofun rfl rfl rfl ⟨rfl, rfl⟩ rfl, okF rfl nofun rfl rfl rfl ⟨rfl, rfl⟩ ?_, trivial⟩
    rw [hss, ← List.append_assoc, show (allC n).getD (i : Int).toNat [] = dig n i from hget]; rfl
   ·rw [h5] at hss
    conv => whnf
    refine .mk (by simp only [okI, Rw.rng] at *; omega) ?_
    conv => whnf
    refine ⟨[(0, some (.box Y.api_Protocol 11 (.dat (.prot p)))), (1, some (.box Y.api_Property 7 (.dat (.prop q)))), (2, some (rowE (refBad q n v ++ smA q n v i)))], i + 1, [0, 1, 2], ⟨fun _ => False, frz_same (Z := fun _ => False) rfl (fun q => q), frz_same (Z := fun _ => False) rfl (fun q => q), frz_same (Z := fun _ => False) rfl (fun q => q), trivial⟩, by omega, by omega, ⟨⟨_, rfl, .eq rfl⟩, ⟨_, rfl, .eq rfl⟩, trivial⟩, ⟨⟨_, rfl, .eq rfl⟩, ⟨_, rfl, .eq rfl⟩, ⟨_, rfl, .eq rfl⟩, ⟨_, rfl, .eq rfl⟩, trivial⟩, okF rfl nofun rfl rfl rfl ⟨rfl, rfl⟩ rfl, okF rfl nofun rfl rfl rfl ⟨rfl, rfl⟩ rfl, okF rfl nofun rfl rfl rfl ⟨rfl, rfl⟩ (by rw [hss]; simp), trivial⟩
  ·have hi' : i = 4^n := by
    have : ¬ ((i : Int) < ((allC n).length : Int)) := of_decide_eq_false h4
    omega
   rw [hi', ← refBad_succ]
   conv => whnf
   refine .mk (by simp only [okI, Rw.rng] at *; omega) ?_
   conv => whnf
   refine ⟨v + 1, [0, 1, 2], by omega, by omega, ⟨⟨_, rfl, .eq rfl⟩, ⟨_, rfl, .eq rfl⟩, trivial⟩, ⟨⟨_, rfl, .eq rfl⟩, ⟨_, rfl, .eq rfl⟩, ⟨_, rfl, .eq rfl⟩, trivial⟩, ⟨rfl, nofun, rfl, rfl, rfl, _, rfl, rfl, rfl, SubA.of_eq rfl⟩, ⟨rfl, nofun, rfl, rfl, rfl, _, rfl, rfl, rfl, SubA.of_eq rfl⟩, ⟨rfl, nofun, rfl, rfl, rfl, _, rfl, rfl, rfl, SubA.of_eq rfl⟩, trivial⟩
 ·have hv' : v = vals := by
   have : ¬ (v : Int) < max 1 (p.values.length : Int) := of_decide_eq_false h3
   omega
  rw [hv']
  conv => whnf
  exact EndZ.ownE rfl
theorem leqL_dec1 {a b : List Int} (h : leqL a b = true) (hne : a ≠ b) : ∃ x, x < b.length ∧ a.getD x 0 < b.getD x 0 := by
 refine Classical.byContradiction fun hc => hne ?_
 obtain ⟨h1, h2⟩ := leqL_iff.1 h
 refine List.ext_getElem h1 fun i hi hj => ?_
 have e1 := h2 i hi
 have e2 : ¬ a.getD i 0 < b.getD i 0 := fun q => hc ⟨i, hj, q⟩
 rw [show a.getD i 0 = a[i] by simp [hi], show b.getD i 0 = b[i] by simp [hj]] at e1 e2
 omega
theorem dem_mono {q : Prop'} {a b : List Int} (h : leqL a b = true) (hd : demB q a = true) : demB q b = true := by
 unfold demB at hd ⊢
 rw [List.all_eq_true] at hd ⊢
 intro k hk
 have := of_decide_eq_true (hd k hk)
 refine decide_eq_true (Int.le_trans this ?_)
 unfold cntS
 generalize k.states = st
 induction st with
 | nil => exact Int.le_refl _
 | cons x r ih =>
  simp only [List.map_cons, List.sum_cons]
  have := leqL_get h x.toNat
  omega
theorem leq_below {a b : List Int} {x : Nat} (h : leqL a b = true) (hx : a.getD x 0 < b.getD x 0) : leqL a (addAt b x (-1)) = true := by
 obtain ⟨h1, h2⟩ := leqL_iff.1 h
 refine leqL_iff.2 ⟨by rw [addAt_len, h1], fun i hi => ?_⟩
 rw [addAt_get]
 split
 ·rename_i hc
  have : i = x := by have := hc.1; simpa using this
  subst this; omega
 ·exact h2 i hi
theorem below_leq {b : List Int} {x : Nat} : leqL (addAt b x (-1)) b = true := by
 refine leqL_iff.2 ⟨addAt_len, fun i hi => ?_⟩
 rw [addAt_get]
 split <;> omega
theorem dig_all {n : Nat} : ∀ {c : List Int}, c.length = n → (∀ x ∈ c, 0 ≤ x ∧ x ≤ 3) → ∃ u, u < 4^n ∧ dig n u = c := by
 induction n with
 | zero => intro c h _; exact ⟨0, by decide, by rw [List.eq_nil_of_length_eq_zero h]; rfl⟩
 | succ n ih =>
  intro c h hc
  cases c with
  | nil => simp at h
  | cons k c =>
   simp only [List.length_cons] at h
   obtain ⟨u, h1, h2⟩ := ih (c := c) (by omega) fun x hx => hc x (by simp [hx])
   have hk := hc k (by simp)
   obtain ⟨j, rfl⟩ : ∃ j : Nat, k = j := ⟨k.toNat, by omega⟩
   refine ⟨j * 4^n + u, ?_, ?_⟩
   ·rw [Nat.pow_succ]
    have : j * 4^n ≤ 3 * 4^n := Nat.mul_le_mul_right _ (by omega)
    omega
   ·rw [dig_cons (by omega) h1, h2]
theorem dig_lt : ∀ {n u v : Nat}, u < v → v < 4^n → cmpL (dig n u) (dig n v) < 0 := by
 intro n
 induction n with
 | zero => intro u v h1 h2; simp at h2; omega
 | succ n ih =>
  intro u v h1 h2
  have hp : 0 < 4^n := Nat.pow_pos (by decide)
  rw [Nat.pow_succ] at h2
  have eu : u = u / 4^n * 4^n + u % 4^n := (Nat.div_add_mod' u (4^n)).symm
  have ev : v = v / 4^n * 4^n + v % 4^n := (Nat.div_add_mod' v (4^n)).symm
  have lv : v / 4^n < 4 := (Nat.div_lt_iff_lt_mul hp).2 (by omega)
  have le : u / 4^n ≤ v / 4^n := Nat.div_le_div_right (by omega)
  have d1 : dig (n + 1) u = ((u / 4^n : Nat) : Int) :: dig n (u % 4^n) := by
   conv => lhs; rw [eu]
   exact dig_cons (by omega) (Nat.mod_lt _ hp)
  have d2 : dig (n + 1) v = ((v / 4^n : Nat) : Int) :: dig n (v % 4^n) := by
   conv => lhs; rw [ev]
   exact dig_cons lv (Nat.mod_lt _ hp)
  rw [d1, d2]
  simp only [cmpL]
  by_cases e : u / 4^n = v / 4^n
  ·rw [if_neg (by omega), if_neg (by omega)]
   refine ih ?_ (Nat.mod_lt _ hp)
   rw [e] at eu; omega
  ·rw [if_pos (by omega)]; decide
theorem refBad_ss {q : Prop'} {n vals : Nat} : SS (refBad q n vals) := by
 induction vals with
 | zero => simp [refBad, SS]
 | succ v ih =>
  rw [refBad_succ]
  simp only [SS, List.pairwise_append]
  refine ⟨ih, ?_, fun x hx y hy => ?_⟩
  ·unfold smA
   rw [List.pairwise_map]
   refine List.Pairwise.filter _ ?_
   refine List.Pairwise.imp_of_mem (R := fun a b => a < b) (fun {a b} ha hb h => ?_) List.pairwise_lt_range
   show cmpE ⟨(v : Int), dig n a⟩ ⟨(v : Int), dig n b⟩ < 0
   simp only [cmpE]
   rw [if_neg (by omega), if_neg (by omega)]
   exact dig_lt h (List.mem_range.1 hb)
  ·obtain ⟨w, h1, h2⟩ := List.mem_flatMap.1 hx
   obtain ⟨u, _, rfl⟩ := List.mem_map.1 h2
   obtain ⟨u', _, rfl⟩ := List.mem_map.1 hy
   have := List.mem_range.1 h1
   simp only [cmpE]
   rw [if_pos (by omega)]; decide
theorem bads_mem {q : Prop'} {n vals : Nat} {e : Elem} : e ∈ bads q n vals (4^n) ↔ ∃ u w, u < 4^n ∧ w < vals ∧ demB q (dig n u) = true ∧ e = ⟨((w : Nat) : Int), dig n u⟩ := by
 unfold bads
 rw [List.mem_flatMap]
 constructor
 ·rintro ⟨u, h1, h2⟩
  unfold badAt at h2
  cases hd : demB q (dig n u) with
  | false => rw [hd] at h2; cases h2
  | true =>
   rw [hd] at h2
   obtain ⟨w, h3, rfl⟩ := List.mem_map.1 h2
   exact ⟨u, w, List.mem_range.1 h1, List.mem_range.1 h3, hd, rfl⟩
 ·rintro ⟨u, w, h1, h2, h3, rfl⟩
  refine ⟨u, List.mem_range.2 h1, ?_⟩
  unfold badAt
  rw [h3]
  exact List.mem_map.2 ⟨w, List.mem_range.2 h2, rfl⟩
theorem smB_iff {q : Prop'} {c : List Int} (hc : ∀ x ∈ c, 0 ≤ x) : smB q c = true ↔ demB q c = true ∧ ∀ a, (∀ x ∈ a, 0 ≤ x) → leqL a c = true → a ≠ c → demB q a = false := by
 have gz : ∀ {l : List Int}, (∀ x ∈ l, 0 ≤ x) → ∀ i, 0 ≤ l.getD i 0 := fun {l} h i => by
  by_cases hi : i < l.length
  ·rw [show l.getD i 0 = l[i] by simp [hi]]; exact h _ (List.getElem_mem hi)
  ·rw [show l.getD i 0 = 0 by simp [List.getD_eq_getElem?_getD, List.getElem?_eq_none (by omega : l.length ≤ i)]]; omega
 unfold smB
 rw [Bool.and_eq_true, List.all_eq_true]
 constructor
 ·rintro ⟨h1, h2⟩
  refine ⟨h1, fun a ha hl hne => ?_⟩
  obtain ⟨x, hx, hlt⟩ := leqL_dec1 hl hne
  have h3 := h2 x (List.mem_range.2 hx)
  have h4 : c.getD x 0 ≠ 0 := by have := gz ha x; omega
  rw [show (c.getD x 0 == 0) = false by simpa using h4, Bool.false_or, Bool.not_eq_true'] at h3
  cases hd : demB q a with
  | false => rfl
  | true => rw [dem_mono (leq_below hl hlt) hd] at h3; cases h3
 ·rintro ⟨h1, h2⟩
  refine ⟨h1, fun x hx => ?_⟩
  have hx' := List.mem_range.1 hx
  by_cases h0 : c.getD x 0 = 0
  ·rw [show (c.getD x 0 == 0) = true by simpa using h0]; rfl
  ·have h3 := h2 (addAt c x (-1)) (fun y hy => by
    rcases List.mem_or_eq_of_mem_set hy with hy | rfl
    ·exact hc y hy
    ·have := gz hc x; simp only [Int.toNat_natCast]; omega) below_leq (fun e => by
    have : (addAt c x (-1)).getD x 0 = c.getD x 0 := by rw [e]
    rw [addAt_get, if_pos ⟨by simp, hx'⟩] at this; omega)
   rw [h3]; simp
theorem bad_law {q : Prop'} {n vals : Nat} : covMin (bads q n vals (4^n)) = refBad q n vals := by
 have nn : ∀ {u : Nat}, ∀ x ∈ dig n u, 0 ≤ x := fun {u} x hx => (dig_rng x hx).1
 refine ss_unique (covMin_props _).1 refBad_ss fun e => ?_
 rw [(covMin_props _).2, bads_mem]
 constructor
 ·rintro ⟨⟨u, w, h1, h2, h3, rfl⟩, h4⟩
  refine List.mem_flatMap.2 ⟨w, List.mem_range.2 h2, List.mem_map.2 ⟨u, List.mem_filter.2 ⟨List.mem_range.2 h1, ?_⟩, rfl⟩⟩
  refine (smB_iff nn).2 ⟨h3, fun a ha hl hne => ?_⟩
  cases hd : demB q a with
  | false => rfl
  | true =>
   exfalso
   have hal : a.length = n := by rw [(leqL_iff.1 hl).1, dig_len]
   obtain ⟨u', g1, rfl⟩ := dig_all hal fun x hx => by
    refine ⟨ha x hx, ?_⟩
    obtain ⟨i, hi, rfl⟩ := List.mem_iff_getElem.1 hx
    have e1 := leqL_get hl i
    rw [show a.getD i 0 = a[i] by simp [hi]] at e1
    have hi2 : i < (dig n u).length := by rw [dig_len]; omega
    rw [show (dig n u).getD i 0 = (dig n u)[i] by simp [hi2]] at e1
    have := dig_rng _ (List.getElem_mem hi2)
    omega
   rw [List.any_eq_false] at h4
   refine h4 ⟨(w : Int), dig n u'⟩ (bads_mem.2 ⟨u', w, g1, h2, hd, rfl⟩) (abvE_iff.2 ⟨?_, fun e => hne (congrArg Elem.counts e)⟩)
   simp only [leqE, BEq.rfl, Bool.true_and]; exact hl
 ·intro h
  obtain ⟨w, h1, h2⟩ := List.mem_flatMap.1 h
  obtain ⟨u, h3, rfl⟩ := List.mem_map.1 h2
  obtain ⟨h4, h5⟩ := List.mem_filter.1 h3
  obtain ⟨s1, s2⟩ := (smB_iff nn).1 h5
  refine ⟨⟨u, w, List.mem_range.1 h4, List.mem_range.1 h1, s1, rfl⟩, ?_⟩
  rw [List.any_eq_false]
  intro y hy hab
  obtain ⟨u', w', g1, g2, g3, rfl⟩ := bads_mem.1 hy
  obtain ⟨hl, hne⟩ := abvE_iff.1 hab
  simp only [leqE, Bool.and_eq_true, beq_iff_eq] at hl
  have := s2 (dig n u') nn hl.2 (fun e => hne (by rw [hl.1, e]))
  rw [g3] at this; cases this
def badPQ (p : Prot) (q : Prop') : List Elem := bif checkE p q != 0 then [] else refBad q p.states.length (max 1 p.values.length)
theorem EndZ.pairD {h : Hz} {k : Nat} {c : Int} {l : List Elem} (e : l = []) : EndZ (.tup [.row 3 false (.elems l), .int c]) (.tup [.row k true .nil, .int c]) h := by subst e; exact EndZ.pairN
theorem S.cover_BadElements (p : Prot) (q : Prop') (hp : SmallP p) (hq : SmallQ q) : SpecZ Tryz.prog F.cover_BadElements [.dat (.prot p), .dat (.prop q)] (.tup [.row 3 false (.elems (badPQ p q)), .int (checkE p q)]) := by
 refine SpecZ.of Bd.cover_BadElements (by simp) rfl rfl ?_
 conv => whnf
 refine CallZ.pure (S.cover_Check p q hp hq) rfl ?_
 conv => whnf
 refine ⟨fun h1 => ?_, fun h1 => ?_⟩
 ·conv => whnf
  exact EndZ.pairD (by rw [badPQ, h1]; rfl)
 have h1' := eqz h1
 obtain ⟨b1, b2, b3, b4⟩ := bad_of h1'
 have hv := validF b3
 have v1 := hv.pos; have v2 := hv.states; have v3 := hv.values
 have hB : badPQ p q = refBad q p.states.length (max 1 p.values.length) := by rw [badPQ, h1]; rfl
 rw [hB, h1', ← bad_law]
 conv => whnf
 refine CallZ.pure (S.cover_badElements p q p.states.length (max 1 p.values.length) hp hq rfl v1 v2 rfl (by omega) b2) rfl ?_
 conv => whnf
 exact EndZ.eqv rfl
theorem S.r05_BadElements (p : Prot) (q : Prop') (hp : SmallP p) (hq : SmallQ q) : SpecZ Tryz.prog F.r05_BadElements [.dat (.prot p), .dat (.prop q)] (.tup [.row 3 false (.elems (badPQ p q)), .int (checkE p q)]) := by
 refine SpecZ.of Bd.r05_BadElements (by simp) rfl rfl ?_
 conv => whnf
 refine CallZ.pure (S.r05_Check p q hp hq) rfl ?_
 conv => whnf
 refine ⟨fun h1 => ?_, fun h1 => ?_⟩
 ·conv => whnf
  exact EndZ.pairD (by rw [badPQ, h1]; rfl)
 have h1' := eqz h1
 obtain ⟨b1, b2, b3, b4⟩ := bad_of h1'
 have hv := validF b3
 have v1 := hv.pos; have v2 := hv.states; have v3 := hv.values
 have hB : badPQ p q = refBad q p.states.length (max 1 p.values.length) := by rw [badPQ, h1]; rfl
 rw [hB, h1']
 conv => whnf
 refine CallZ.pure (S.r05_bad p q p.states.length (max 1 p.values.length) hp hq rfl v1 v2 rfl (by omega) b2) rfl ?_
 conv => whnf
 exact EndZ.eqv rfl
theorem badPQ_small (p : Prot) (q : Prop') (hp : SmallP p) : (badPQ p q).length < 2^30 ∧ smallE (badPQ p q) := by
 unfold badPQ
 cases h1 : (checkE p q != 0) with
 | true => exact ⟨by show ([] : List Elem).length < _; decide, fun x hx => by cases hx⟩
 | false =>
  obtain ⟨b1, b2, b3, b4⟩ := bad_of (eqz h1)
  have hv := validF b3
  have v2 := hv.states; have v3 := hv.values
  have h46 : 4^p.states.length ≤ 4^6 := Nat.pow_le_pow_right (by decide) v2
  have h47 : (4 : Nat)^6 = 4096 := by decide
  have h1 := refBad_len (q := q) (n := p.states.length) (v := max 1 p.values.length)
  have h2 : max 1 p.values.length * 4^p.states.length ≤ 3 * 4096 := Nat.mul_le_mul (by omega) (by omega)
  refine ⟨by show (refBad _ _ _).length < _; omega, fun x hx => ?_⟩
  obtain ⟨w, _, h3⟩ := List.mem_flatMap.1 hx
  obtain ⟨u, _, rfl⟩ := List.mem_map.1 h3
  show (dig _ _).length < _
  rw [dig_len]; omega
theorem S.law05_CoverBad (hsane : SpecZ Tryz.prog F.law05_sane [] (.bool true)) (p : Prot) (q : Prop') (e : Elem) (hp : SmallP p) (hq : SmallQ q) (he : e.counts.length < 2^30) :
  SpecZ Tryz.prog F.law05_CoverBad [.dat (.prot p), .dat (.prop q), .dat (.elem e)] (.bool true) := by
 have hs : smallE [e] := fun x hx => by rw [List.mem_singleton] at hx; subst hx; omega
 obtain ⟨l1, l2⟩ := badPQ_small p q hp
 have hsame : SpecZ Tryz.prog F.r05_Same [.row 3 false (.elems (badPQ p q)), .row 3 false (.elems (badPQ p q))] (.bool true) := by
  have := S.r05_Same (badPQ p q) (badPQ p q) false false (by omega) (by omega) l2 l2
  rwa [decide_eq_true rfl] at this
 refine SpecZ.of Bd.law05_CoverBad (by simp) rfl rfl ?_
 conv => whnf
 refine CallZ.lend (S.law05_wide [e] false (show 1 < 2^40 by decide) hs) (And.intro (lend1' trivial rfl) trivial) rfl rfl ?_
 conv => whnf
 refine ⟨fun h1 => ?_, fun h1 => ?_⟩
 ·conv => whnf
  refine CallZ.pure (hsane) rfl ?_
  conv => whnf
  exact EndZ.bool rfl
 conv => whnf
 refine CallZ.pure (S.cover_BadElements p q hp hq) rfl ?_
 conv => whnf
 refine CallZ.pure (S.r05_BadElements p q hp hq) rfl ?_
 conv => whnf
 refine CallZ.pure (S.cover_Initial p q e hp hq he) rfl ?_
 conv => whnf
 refine CallZ.pure (S.r05_Initial p q e hp hq he) rfl ?_
 conv => whnf
 refine CallZ.pure (S.cover_Check p q hp hq) rfl ?_
 conv => whnf
 refine CallZ.pure (S.r05_Check p q hp hq) rfl ?_
 conv => whnf
 repeat (refine VC.mk (by first | exact fun h => h | exact fun h => ⟨h, h⟩) ?_; conv => whnf)
 refine CallZ.pureG (fun _ => hsame) rfl ?_
 conv => whnf
 repeat (refine VC.mk (by first | exact fun h => h | exact fun h => ⟨h, h⟩) ?_; conv => whnf)
 refine CallZ.pureG (fun _ => hsane) rfl ?_
 conv => whnf
 refine .mk (by exact fun h => h) ?_
 conv => whnf
 exact EndZ.bool (by simp)
end Go.Proofs.YtgokbcjkbdabnaaGreatDoor
