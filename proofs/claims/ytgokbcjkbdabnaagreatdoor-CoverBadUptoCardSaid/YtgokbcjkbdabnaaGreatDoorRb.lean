/-
 The two programs' rules for a protocol's rules say the same. No condition.
-/
import Derived.Test.YtgokbcjkbdabnaaGreatDoorRa
import Derived.Test.YtgokbcjkbdabnaaGreatDoorLg
namespace Go.Proofs.YtgokbcjkbdabnaaGreatDoor
open Go.Ab Go.Proofs
theorem withE_out' {x n : Int} : (!(withE x 0 (n - 1))) = outE x n := by rw [withE_out, Bool.not_not]
theorem vals_eq (p : Prot) (r : Rule) : valsR p r = ((decide (r.read < -1) || decide (r.read ≥ p.values.length)) || (decide (r.write < -1) || decide (r.write ≥ p.values.length))) := by
 simp only [valsR, withE_out', outE]
 rw [Bool.eq_iff_iff]; simp; omega
theorem first2 (a b : Bool) (v : Int) (r : List Int) (h : v ≠ 0) : firstE (whenE (a || b) v :: r) = firstE (whenE a v :: whenE b v :: r) := by
 cases a <;> cases b <;> simp [whenE, firstE, h]
theorem first_guards (p : Prot) (l : List Thr) (r : List Int) : firstE (guardsE p l :: r) = firstE (guardsL p l :: whenE (decide ((l.length : Int) > 2)) 4 :: r) := by
 by_cases h : guardsL p l = 0
 ·rw [show guardsE p l = whenE (decide ((l.length : Int) > 2)) 4 from if_pos h, h]; rfl
 ·rw [show guardsE p l = guardsL p l from if_neg h, fN h, fN h]
theorem cond_or {c d : Bool} : (bif c then true else d) = (c || d) := by cases c <;> rfl
theorem len_nil {α : Type} {l : List α} (h : decide ((l.length : Int) > 0) = false) : l = [] := by
 cases l with
 | nil => rfl
 | cons a r => simp at h
theorem unused_no {r : Rule} {t : Int} (h : unusedE r t = false) :
  (r.kind ≠ 1 → r.guards = [] ∧ r.ex = [] ∧ r.all = [] ∧ r.send = []) ∧ (r.kind ≠ 1 → r.kind ≠ 2 → r.kind ≠ 3 → r.read = -1 ∧ r.write = -1) ∧
  (r.kind ≠ 3 → r.response = []) ∧ (r.kind ≠ 5 → r.direction = 0) ∧ (r.kind ≠ 4 → r.pos = 0 ∧ r.left = [] ∧ r.right = []) ∧ (¬(r.kind = 4 ∧ t = 4) → r.parent = []) := by
 simp only [unusedE, cond_or, Bool.or_eq_false_iff] at h
 obtain ⟨h1, h2, h3, ⟨h4, h5⟩, h6, h7⟩ := h
 refine ⟨fun k => ?_, fun k1 k2 k3 => ?_, fun k => ?_, fun k => ?_, fun k => ?_, fun k => ?_⟩
 ·simp only [beq_eq_false_iff_ne.2 k, Bool.not_false, Bool.true_and, Bool.or_eq_false_iff] at h1
  exact ⟨len_nil h1.1.1.1, len_nil h1.1.1.2, len_nil h1.1.2, len_nil h1.2⟩
 ·simp only [beq_eq_false_iff_ne.2 k1, beq_eq_false_iff_ne.2 k2, beq_eq_false_iff_ne.2 k3, Bool.not_false, Bool.true_and, Bool.or_eq_false_iff] at h2
  exact ⟨eqz' h2.1, eqz' h2.2⟩
 ·simp only [beq_eq_false_iff_ne.2 k, Bool.not_false, Bool.true_and] at h4
  exact len_nil h4
 ·simp only [beq_eq_false_iff_ne.2 k, Bool.not_false, Bool.true_and] at h5
  exact eqz' h5
 ·simp only [beq_eq_false_iff_ne.2 k, Bool.not_false, Bool.true_and, Bool.or_eq_false_iff] at h6
  exact ⟨eqz' h6.1.1, len_nil h6.1.2, len_nil h6.2⟩
 ·refine len_nil ?_
  rw [Bool.and_eq_false_iff] at h7
  rcases h7 with h7 | h7
  ·exact h7
  ·simp only [Bool.not_eq_false', Bool.and_eq_true, beq_iff_eq] at h7
   exact absurd h7 k
theorem kind_eq {r : Rule} {t : Int} : ((!(withE r.kind 1 5) || (decide (r.kind ≤ 3) != (t == 1))) || unusedE r t) = (!(fitsE r.kind t) || surplusE r t) := by
 by_cases hk : 1 ≤ r.kind ∧ r.kind ≤ 5
 ·rw [unused_surplus hk]
  congr 1
  have hk' : r.kind = 1 ∨ r.kind = 2 ∨ r.kind = 3 ∨ r.kind = 4 ∨ r.kind = 5 := by omega
  rcases hk' with e | e | e | e | e <;> rw [e] <;> cases ht : (t == 1) <;> simp [withE, fitsE, ht]
 ·have h1 : withE r.kind 1 5 = false := by rw [withE, Bool.and_eq_false_iff]; simp; omega
  have h2 : fitsE r.kind t = false := by
   have : r.kind ≠ 1 ∧ r.kind ≠ 2 ∧ r.kind ≠ 3 ∧ r.kind ≠ 4 ∧ r.kind ≠ 5 := by omega
   obtain ⟨a, b, c, d, e⟩ := this
   simp [fitsE, a, b, c, d, e]
  rw [h1, h2]; rfl
theorem ends_of (p : Prot) (r : Rule) : (ends2 p r != 0) = (outE r.fr p.states.length || outE r.to p.states.length) := by
 simp only [ends2, indexE]
 cases outE r.fr p.states.length <;> cases outE r.to p.states.length <;> rfl
theorem ends_v (p : Prot) (r : Rule) (h : (ends2 p r != 0) = true) : ends2 p r = 5 := by
 rw [ends_of] at h
 simp only [ends2, indexE]
 revert h
 cases outE r.fr p.states.length <;> cases outE r.to p.states.length <;> intro h <;> first | rfl | cases h
theorem setE_nil (n : Int) : setE [] n = 0 := rfl
theorem first_pad (x : Int) : firstE [x, 0, 0, 0, 0, 0, 0] = firstE [x] := by
 simp only [firstE]; simp
theorem fcong {a : Int} {X Y : List Int} (h : firstE X = firstE Y) : firstE (a :: X) = firstE (a :: Y) := by simp only [firstE, h]
theorem first_pad7 (x : Int) : firstE [x, 0, 0, 0, 0, 0, 0, 0] = firstE [x] := by
 simp only [firstE]; simp
theorem first_pad2 (x : Int) : firstE [x, 0, 0] = firstE [x] := by
 simp only [firstE]; simp
theorem vals_first (p : Prot) (r : Rule) : firstE [whenE (valsR p r) 5, 0, 0, 0, 0, 0, 0, 0] = firstE [valueE p r.read, valueE p r.write] := by
 rw [vals_eq, first2 _ _ _ _ (by decide)]
 exact fcong (first_pad7 _)
theorem rule_law (p : Prot) (i : Nat) : ruleR p i = ruleErr p i := by
 simp only [ruleR, ruleErr, badName, badKind]
 generalize p.rules.getD i default = r
 cases hv : validName r.name with
 | false => rfl
 | true =>
 cases ha : (p.rules.take i).any (fun x => x.name == r.name) with
 | true => rfl
 | false =>
 simp only [kindR, kind_eq, Bool.not_true, Bool.or_false, cond_false]
 cases hk : (!(fitsE r.kind p.topology) || surplusE r p.topology) with
 | true => rfl
 | false =>
 have hk2 := hk
 rw [← kind_eq, Bool.or_eq_false_iff, Bool.or_eq_false_iff, Bool.not_eq_false'] at hk2
 obtain ⟨⟨k1, _⟩, k2⟩ := hk2
 obtain ⟨u1, u2, u3, u4, u5, u6⟩ := unused_no k2
 have hk' : r.kind = 1 ∨ r.kind = 2 ∨ r.kind = 3 ∨ r.kind = 4 ∨ r.kind = 5 := by
  simp only [withE, Bool.and_eq_true, decide_eq_true_eq] at k1; omega
 cases he : (ends2 p r != 0) with
 | true =>
  rw [ends_v p r he]
  rw [ends_of] at he
  simp only [endsR, withE_out', he]; rfl
 | false =>
 rw [ends_of] at he
 simp only [endsR, withE_out', he, Bool.false_or, cond_false]
 rcases hk' with e | e | e | e | e
 ·have a5 := u5 (by omega)
  have m4 : mis4 p r = false := by simp [mis4, e]
  have d1 : dirT p r = false := by simp [dirT, e]
  have d2 : dirN p r = false := by simp [dirN, e]
  simp only [tailR, m4, d1, d2, a5.2.1, a5.2.2, u6 (by omega), e, setE_nil, Int.reduceBEq, Bool.or_self, Bool.false_and, cond_false, cond_true]
  rw [first_guards]
  refine fcong (fcong (fcong (fcong ?_)))
  rw [vals_eq, first2 _ _ _ _ (by decide)]
  refine fcong (fcong ?_)
  exact first_pad _
 ·obtain ⟨g1, g2, g3, g4⟩ := u1 (by omega)
  have a5 := u5 (by omega)
  have m4 : mis4 p r = false := by simp [mis4, e]
  have d1 : dirT p r = false := by simp [dirT, e]
  have d2 : dirN p r = false := by simp [dirN, e]
  simp only [tailR, m4, d1, d2, g1, g2, g3, g4, a5.2.1, a5.2.2, u6 (by omega), e, setE_nil, Int.reduceBEq, Bool.or_self, Bool.or_false, Bool.true_and, cond_false, cond_true, indexE]
  cases outE r.pfrom p.states.length with
  | true => rfl
  | false =>
   cases outE r.pto p.states.length with
   | true => rfl
   | false => exact vals_first p r
 ·obtain ⟨g1, g2, g3, g4⟩ := u1 (by omega)
  have a5 := u5 (by omega)
  have m4 : mis4 p r = false := by simp [mis4, e]
  have d1 : dirT p r = false := by simp [dirT, e]
  have d2 : dirN p r = false := by simp [dirN, e]
  simp only [tailR, m4, d1, d2, g1, g2, g3, g4, a5.2.1, a5.2.2, u6 (by omega), e, setE_nil, Int.reduceBEq, Bool.or_self, Bool.or_false, Bool.false_and, cond_false, cond_true, respE]
  cases ((r.response.length : Int) != p.states.length) with
  | true => rfl
  | false =>
   simp only [cond_false]
   by_cases hz : rangeE r.response p.states.length = 0
   ·rw [hz]; exact vals_first p r
   ·rw [show (rangeE r.response p.states.length != 0) = true by simpa using hz, fN hz]; rfl
 ·obtain ⟨g1, g2, g3, g4⟩ := u1 (by omega)
  obtain ⟨v1, v2⟩ := u2 (by omega) (by omega) (by omega)
  have m4 : mis4 p r = misE p r := by
   simp only [mis4, misE, e, withE_not]; rfl
  have d1 : dirT p r = false := by simp [dirT, e]
  have d2 : dirN p r = false := by simp [dirN, e]
  have vv : valsR p r = false := by simp [valsR, v1, v2]
  simp only [tailR, m4, d1, d2, vv, g1, g2, g3, g4, e, setE_nil, Int.reduceBEq, Bool.or_self, Bool.or_false, Bool.false_and, cond_false, cond_true]
  exact fcong (fcong (fcong (first_pad2 _)))
 ·obtain ⟨g1, g2, g3, g4⟩ := u1 (by omega)
  obtain ⟨v1, v2⟩ := u2 (by omega) (by omega) (by omega)
  have a5 := u5 (by omega)
  have m4 : mis4 p r = false := by simp [mis4, e]
  have vv : valsR p r = false := by simp [valsR, v1, v2]
  have d1 : dirT p r = ((p.topology == 4) && (decide (r.direction < 3) || decide (r.direction > 4))) := by
   simp only [dirT, e, withE_not]; rfl
  have d2 : dirN p r = (!(p.topology == 4) && (decide (r.direction < 1) || decide (r.direction > 2))) := by
   simp only [dirN, e, withE_not]; rfl
  simp only [tailR, m4, d1, d2, vv, g1, g2, g3, g4, a5.2.1, a5.2.2, u6 (by omega), e, setE_nil, Int.reduceBEq, Bool.or_self, Bool.or_false, Bool.or_true, Bool.true_and, cond_false, cond_true, indexE]
  cases outE r.pfrom p.states.length with
  | true => cases (p.topology == 4) <;> rfl
  | false =>
   cases outE r.pto p.states.length with
   | true => cases (p.topology == 4) <;> rfl
   | false =>
    cases (p.topology == 4) with
    | true => cases (decide (r.direction < 3) || decide (r.direction > 4)) <;> rfl
    | false => cases (decide (r.direction < 1) || decide (r.direction > 2)) <;> rfl
theorem top_eq {p : Prot} : (!(withE p.topology 1 4) || !(withE p.fault 0 3)) = topBad p := by
 simp only [withE_not, topBad, Bool.or_assoc]
theorem S.r02_rule' (p : Prot) (i : Nat) (hi : i < p.rules.length) (hp : SmallP p) : SpecZ Tryz.prog F.r02_rule [.dat (.prot p), .int i] (.int (ruleErr p i)) := by
 rw [← rule_law]; exact S.r02_rule p i hi hp
theorem lendN {h : Hz} {j : Nat} {Z : Nat → Prop} {l : List Str} (hz : Z j) (q : h.get j = some (.row Y.string 0 (.strs l) [])) : T.sub Z h.toHp (V.row 0 false (.strs l)).toT (V.own j).toT := by
 show T.sub Z h.toHp (.sl 0 false (l.map eS)) (.own j)
 simp only [T.sub]
 refine ⟨trivial, hz, ?_, by decide, Y.string, ?_⟩
 ·rw [freeL_iff]; intro t ht; obtain ⟨x, _, rfl⟩ := List.mem_map.1 ht; rfl
 ·have := toHp_some q
  rw [this]; simp [OV.toOb, Rw.toL, V.toL]
theorem S.r02_Validate (p : Prot) (hp : SmallP p) : SpecZ Tryz.prog F.r02_Validate [.dat (.prot p)] (.int (validE p)) := by
 have g1 := hp.states; have g2 := hp.messages; have g3 := hp.values; have g4 := hp.resilience; have g5 := hp.initial; have g6 := hp.leader; have g7 := hp.rules
 refine SpecZ.of Bd.r02_Validate (by simp) rfl rfl ?_
 conv => whnf
 refine CallZ.pure (S.r02_ValidName p.name) rfl ?_
 conv => whnf
 refine ⟨fun h1 => ?_, fun h1 => ?_⟩
 ·conv => whnf
  exact EndZ.int (by rw [validE, h1]; rfl)
 conv => whnf
 refine CallZ.pure (S.r02_within p.topology 1 4) rfl ?_
 conv => whnf
 repeat (refine VC.mk (by exact fun h => h) ?_; conv => whnf)
 refine CallZ.pureG (fun _ => S.r02_within p.fault 0 3) rfl ?_
 conv => whnf
 repeat (refine VC.mk (by first | exact fun h => h | (intro h; rw [h]; rfl)) ?_; conv => whnf)
 refine ⟨fun h2 => ?_, fun h2 => ?_⟩
 ·conv => whnf
  rw [top_eq] at h2
  exact EndZ.int (by rw [validE, h1, h2]; rfl)
 rw [top_eq] at h2
 conv => whnf
 refine ⟨fun h3 => ?_, fun h3 => ?_⟩
 ·conv => whnf
  exact EndZ.int (by rw [validE, h1, h2, show ((p.states.length : Int) == 0) = true from h3]; rfl)
 replace h3 : ((p.states.length : Int) == 0) = false := h3
 conv => whnf
 repeat (refine VC.mk (by first | exact fun h => h | (intro h; rw [h]; rfl)) ?_; conv => whnf)
 refine ⟨fun h4 => ?_, fun h4 => ?_⟩
 ·conv => whnf
  exact EndZ.int (by rw [validE, h1, h2, h3, show largeP p = true from h4]; rfl)
 replace h4 : largeP p = false := h4
 have h0 : 0 < p.states.length := by
  rcases Nat.eq_zero_or_pos p.states.length with e | e
  ·rw [e] at h3; exact absurd h3 (by decide)
  ·exact e
 have hlen : (allNames p).length < 2^30 := by simp only [allNames, List.length_append]; omega
 conv => whnf
 repeat (refine VC.mk (by simp only [capOk, lenRX, Rw.len, List.length_append, List.length_nil]; omega) ?_; conv => whnf)
 refine LoopZ.fz 3 57 0 (.strs (allNames p)) rfl rfl (lendN rfl rfl) ?_
 conv => whnf
 refine LoopZ.same [1, 3] (fun i : Nat => [(4, .int i)]) (fun i => i ≤ (allNames p).length ∧ (List.range i).any (nameBad (allNames p)) = false) (fun i => (allNames p).length - i) 0 rfl (by decide) rfl (fun _ => rfl) ⟨Nat.zero_le _, rfl⟩ ⟨⟨_, rfl, rfl⟩, trivial⟩ ?_
 conv => whnf
 refine ⟨rfl, ?_⟩
 rintro i ⟨hi, hall⟩
 conv => whnf
 refine ⟨fun h5 => ?_, fun h5 => ?_⟩
 ·have hi' : i < (allNames p).length := by have : (i : Int) < ((allNames p).length : Int) := of_decide_eq_true h5; omega
  conv => whnf
  refine .mk (by simp only [okI, Rw.rng] at *; omega) ?_
  conv => whnf
  refine CallZ.pure (S.r02_ValidName ((allNames p).getD i [])) rfl ?_
  conv => whnf
  repeat (refine VC.mk (by first | exact fun h => h | exact fun h => ⟨h, h⟩ | (intro h; (repeat' apply And.intro) <;> first | exact h | omega | (simp only [Rw.rngE]; omega) | (simp only [Rw.rng]; omega))) ?_; conv => whnf)
  refine CallZ.pureG (fun _ => S.r02_HasText ((allNames p).take i) ((allNames p).getD i []) _ (by rw [List.length_take]; omega)) rfl ?_
  conv => whnf
  refine .mk (by intro h; rw [h]; rfl) ?_
  conv => whnf
  refine ⟨fun h6 => ?_, fun h6 => ?_⟩
  ·conv => whnf
   refine EndZ.int ?_
   rw [validE, h1, h2, h3, h4, show namesE p = 2 by rw [namesE, any_range.2 ⟨i, hi', h6⟩]; rfl]; rfl
  ·conv => whnf
   refine .mk (by simp only [okI, Rw.rng] at *; omega) ?_
   conv => whnf
   refine ⟨i + 1, ⟨by omega, ?_⟩, by omega, ⟨⟨_, rfl, rfl⟩, trivial⟩, ?_, rfl⟩
   ·rw [List.range_succ, List.any_append, hall]
    simp only [List.any_cons, List.any_nil, Bool.or_false, Bool.false_or]; exact h6
   ·repeat' (first | exact trivial | exact ⟨_, rfl, rfl⟩ | constructor)
 have hi' : (allNames p).length ≤ i := by have : ¬ ((i : Int) < ((allNames p).length : Int)) := of_decide_eq_false h5; omega
 have e : i = (allNames p).length := Nat.le_antisymm hi hi'
 subst e
 have h5 : namesE p = 0 := by rw [namesE, hall]; rfl
 clear hi hall hi' hlen
 conv => whnf
 repeat (refine VC.mk (by first | exact fun h => h | (intro h; rw [h]; rfl) | (intro h; simp [h]; done) | (intro h; simp_all; done)) ?_; conv => whnf)
 refine ⟨fun h6 => ?_, fun h6 => ?_⟩
 ·conv => whnf
  exact EndZ.int (by rw [validE, h1, h2, h3, h4, h5, show misP p = true from h6]; rfl)
 replace h6 : misP p = false := h6
 conv => whnf
 refine LoopZ.same [1] (fun i : Nat => [(5, .int i)]) (fun i => i ≤ p.resilience.length ∧ (p.resilience.take i).any (fun l => !(bndE l)) = false) (fun i => p.resilience.length - i) 0 rfl (by decide) rfl (fun _ => rfl) ⟨by omega, by simp⟩ ⟨⟨_, rfl, rfl⟩, trivial⟩ ?_
 conv => whnf
 refine ⟨rfl, ?_⟩
 rintro i ⟨hi, hall⟩
 conv => whnf
 refine ⟨fun h7 => ?_, fun h7 => ?_⟩
 ·have hi' : i < p.resilience.length := by simpa using h7
  conv => whnf
  refine .mk (by simp only [okI, Rw.rng] at *; omega) ?_
  conv => whnf
  refine CallZ.pure (S.r02_few (p.resilience.getD i default)) rfl ?_
  conv => whnf
  refine ⟨fun h8 => ?_, fun h8 => ?_⟩
  ·conv => whnf
   exact EndZ.int (by rw [validE, h1, h2, h3, h4, h5, h6, any_of_get (d := default) hi' h8]; rfl)
  ·conv => whnf
   refine .mk (by simp only [okI, Rw.rng] at *; omega) ?_
   conv => whnf
   refine ⟨i + 1, ⟨by omega, ?_⟩, by omega, ⟨⟨_, rfl, rfl⟩, trivial⟩, ?_, rfl⟩
   ·rw [any_take (d := default) hi' hall]; exact h8
   ·repeat' (first | exact trivial | exact ⟨_, rfl, rfl⟩ | constructor)
 have hi' : p.resilience.length ≤ i := by simpa using h7
 rw [List.take_of_length_le hi'] at hall
 clear hi hi' h7
 conv => whnf
 refine CallZ.pure (S.r02_Set p.initial p.states.length false (by omega) ⟨by omega, by omega⟩) rfl ?_
 conv => whnf
 refine ⟨fun h7 => ?_, fun h7 => ?_⟩
 ·replace h7 := nez h7
  have : headE p = setE p.initial p.states.length := fN h7
  conv => whnf
  exact EndZ.int (by rw [validE, h1, h2, h3, h4, h5, h6, hall, this, show (setE p.initial p.states.length != 0) = true by simpa using h7]; rfl)
 replace h7 := eqz h7
 conv => whnf
 refine ⟨fun h8 => ?_, fun h8 => ?_⟩
 ·replace h8 : ((p.initial.length : Int) == 0) = true := h8
  have : headE p = 1 := by rw [headE, h7, h8]; rfl
  conv => whnf
  exact EndZ.int (by rw [validE, h1, h2, h3, h4, h5, h6, hall, this]; rfl)
 replace h8 : ((p.initial.length : Int) == 0) = false := h8
 conv => whnf
 refine CallZ.pure (S.r02_Set p.leader p.states.length false (by omega) ⟨by omega, by omega⟩) rfl ?_
 conv => whnf
 refine ⟨fun h9 => ?_, fun h9 => ?_⟩
 ·replace h9 := nez h9
  have : headE p = setE p.leader p.states.length := by rw [headE, h7, h8]; exact fN h9
  conv => whnf
  exact EndZ.int (by rw [validE, h1, h2, h3, h4, h5, h6, hall, this, show (setE p.leader p.states.length != 0) = true by simpa using h9]; rfl)
 replace h9 := eqz h9
 have h10 : headE p = 0 := by rw [headE, h7, h8, h9]; rfl
 conv => whnf
 refine LoopZ.same [1] (fun i : Nat => [(8, .int i)]) (fun i => i ≤ p.rules.length ∧ rulesE p = firstE (((List.range p.rules.length).drop i).map (ruleErr p))) (fun i => p.rules.length - i) 0 rfl (by decide) rfl (fun _ => rfl) ⟨by omega, by simp [rulesE]⟩ ⟨⟨_, rfl, rfl⟩, trivial⟩ ?_
 conv => whnf
 refine ⟨rfl, ?_⟩
 rintro i ⟨hi, hr⟩
 conv => whnf
 refine ⟨fun h11 => ?_, fun h11 => ?_⟩
 ·have hi' : i < p.rules.length := by simpa using h11
  rw [range_drop hi'] at hr
  simp only [firstE] at hr
  conv => whnf
  refine CallZ.pure (S.r02_rule' p i hi' hp) rfl ?_
  conv => whnf
  refine ⟨fun h12 => ?_, fun h12 => ?_⟩
  ·conv => whnf
   have h12' : ruleErr p i ≠ 0 := nez h12
   rw [if_neg h12'] at hr
   exact EndZ.int (by rw [validE, h1, h2, h3, h4, h5, h6, hall, h10, hr, show (ruleErr p i != 0) = true from h12]; rfl)
  ·conv => whnf
   refine .mk (by simp only [okI, Rw.rng] at *; omega) ?_
   conv => whnf
   have h12' : ruleErr p i = 0 := eqz h12
   rw [if_pos h12'] at hr
   refine ⟨i + 1, ⟨by omega, hr⟩, by omega, ⟨⟨_, rfl, rfl⟩, trivial⟩, ?_, rfl⟩
   repeat' (first | exact trivial | exact ⟨_, rfl, rfl⟩ | constructor)
 have hi' : p.rules.length ≤ i := by simpa using h11
 rw [List.drop_eq_nil_of_le (by simpa using hi')] at hr
 conv => whnf
 refine CallZ.pure (S.r02_distinct p hp) rfl ?_
 conv => whnf
 refine ⟨fun h12 => ?_, fun h12 => ?_⟩
 ·conv => whnf
  exact EndZ.int (by rw [validE, h1, h2, h3, h4, h5, h6, hall, h10, hr, show decide (((distT p.rules).length : Int) > 3) = true from h12]; rfl)
 ·conv => whnf
  exact EndZ.int (by rw [validE, h1, h2, h3, h4, h5, h6, hall, h10, hr, show decide (((distT p.rules).length : Int) > 3) = false from h12]; rfl)
def clsAt (p : Prot) (i : Nat) : V := .agg [.bool (((p.topology == 1) && ((p.values.length : Int) == 0)) && (p.rules.take i).foldl risS true), .bool (plainE p && !((p.rules.take i).foldl uniS false)), .bool ((p.topology == 2) || (p.topology == 3)), .bool (p.topology == 4), .bool (plainE p && decide ((p.states.length : Int) ≤ 4))]
def badR (r : Rule) : Bool := r.kind != 1 || decide (r.fr ≥ r.to) || decide ((r.ex.length : Int) > 0) || decide ((r.all.length : Int) > 0)
theorem ris_bad {acc : Bool} {r : Rule} (h : badR r = true) : risS acc r = false := by
 simp only [badR, Bool.or_eq_true, bne_iff_ne, decide_eq_true_eq] at h
 simp only [risS]
 rw [Bool.eq_false_iff]; intro q
 simp only [Bool.and_eq_true, beq_iff_eq, decide_eq_true_eq] at q
 omega
theorem ris_ok {acc : Bool} {r : Rule} (h : badR r = false) : risS acc r = acc := by
 simp only [badR, Bool.or_eq_false_iff, bne_eq_false_iff_eq, decide_eq_false_iff_not] at h
 obtain ⟨⟨⟨a, b⟩, c⟩, d⟩ := h
 simp only [risS]
 rw [show (r.kind == 1) = true from beq_iff_eq.2 a, decide_eq_true (by omega), show ((r.ex.length : Int) == 0) = true from beq_iff_eq.2 (by omega), show ((r.all.length : Int) == 0) = true from beq_iff_eq.2 (by omega)]
 simp
theorem cls0 (p : Prot) : clsAt p 0 = .agg [.bool ((p.topology == 1) && ((p.values.length : Int) == 0)), .bool (plainE p), .bool ((p.topology == 2) || (p.topology == 3)), .bool (p.topology == 4), .bool (plainE p && decide ((p.states.length : Int) ≤ 4))] := by
 simp [clsAt]
theorem cls_next (p : Prot) {i : Nat} (hi : i < p.rules.length) : clsAt p (i + 1) =
  .agg [.bool (bif badR (p.rules.getD i default) then false else ((p.topology == 1) && ((p.values.length : Int) == 0)) && (p.rules.take i).foldl risS true),
   .bool (bif decide (((p.rules.getD i default).all.length : Int) > 0) then false else plainE p && !((p.rules.take i).foldl uniS false)), .bool ((p.topology == 2) || (p.topology == 3)), .bool (p.topology == 4), .bool (plainE p && decide ((p.states.length : Int) ≤ 4))] := by
 simp only [clsAt, foldl_tk (d := default) hi]
 cases hb : badR (p.rules.getD i default) with
 | true =>
  rw [ris_bad hb, uniS]
  cases decide (((p.rules.getD i default).all.length : Int) > 0) <;> simp
 | false =>
  rw [ris_ok hb, uniS]
  cases decide (((p.rules.getD i default).all.length : Int) > 0) <;> simp
theorem S.r02_Classify (p : Prot) (hp : SmallP p) : SpecZ Tryz.prog F.r02_Classify [.dat (.prot p)] (classE p) := by
 have g1 := hp.states; have g2 := hp.messages; have g3 := hp.values; have g4 := hp.resilience; have g7 := hp.rules
 refine SpecZ.of Bd.r02_Classify (by simp) rfl rfl ?_
 conv => whnf
 refine CallZ.pure (S.r02_Validate p hp) rfl ?_
 conv => whnf
 refine ⟨fun h1 => ?_, fun h1 => ?_⟩
 ·conv => whnf
  refine EndZ.eqv ?_
  rw [classE, h1]; rfl
 have h1' : validE p = 0 := eqz h1
 conv => whnf
 repeat (refine VC.mk (by first | exact fun h => h | (intro h; rw [h]; rfl)) ?_; conv => whnf)
 refine LoopZ.objs 100 [1, 2, 7] (fun i : Nat => [(8, .int i)]) (fun i => [(0, .box Y.api_Protocol 11 (.dat (.prot p))), (1, .box Y.familycheckref02_Classes 6 (clsV noCls)), (58, .box Y.familycheckref02_Classes 6 (clsAt p i))]) (fun i => i ≤ p.rules.length) (fun i => p.rules.length - i) 0 [0, 1, 58] rfl (by decide) (fun _ => rfl) (Nat.zero_le _) ?_ ?_ ?_
 ·exact ⟨⟨_, rfl, .eq rfl⟩, trivial⟩
 ·refine ⟨⟨rfl, nofun, rfl, rfl, rfl, _, rfl, rfl, rfl, SubA.of_eq rfl⟩, ⟨rfl, nofun, rfl, rfl, rfl, _, rfl, rfl, rfl, SubA.of_eq rfl⟩, ⟨rfl, nofun, rfl, rfl, rfl, _, rfl, rfl, rfl, SubA.of_eq ?_⟩, trivial⟩
  rw [cls0]; rfl
 conv => whnf
 refine ⟨⟨⟨_, rfl, .eq rfl⟩, ⟨_, rfl, .eq rfl⟩, ⟨_, rfl, .eq rfl⟩, trivial⟩, rfl, ?_⟩
 rintro i hi
 have g8 := hp.rule i
 have g9 := g8.ex; have g10 := g8.all
 conv => whnf
 refine ⟨fun h3 => ?_, fun h3 => ?_⟩
 ·have hi' : i < p.rules.length := by simpa using h3
  conv => whnf
  repeat (refine VC.mk (by first | exact fun h => h | exact fun h => ⟨h, h⟩ | (intro h; rw [h]; rfl) | (simp only [okI, Rw.rng] at *; omega)) ?_; conv => whnf)
  refine ⟨fun h4 => ?_, fun h4 => ?_⟩
  ·replace h4 : badR (p.rules.getD i default) = true := h4
   conv => whnf
   refine ⟨fun h5 => ?_, fun h5 => ?_⟩
   ·replace h5 : decide (((p.rules.getD i default).all.length : Int) > 0) = true := h5
    conv => whnf
    refine .mk (by simp only [okI, Rw.rng] at *; omega) ?_
    conv => whnf
    refine ⟨i + 1, [0, 1, 58], by omega, by omega, ⟨⟨_, rfl, .eq rfl⟩, trivial⟩, ⟨⟨_, rfl, .eq rfl⟩, ⟨_, rfl, .eq rfl⟩, ⟨_, rfl, .eq rfl⟩, trivial⟩, ⟨rfl, nofun, rfl, rfl, rfl, _, rfl, rfl, rfl, SubA.of_eq rfl⟩, ⟨rfl, nofun, rfl, rfl, rfl, _, rfl, rfl, rfl, SubA.of_eq rfl⟩, ⟨rfl, nofun, rfl, rfl, rfl, _, rfl, rfl, rfl, SubA.of_eq ?_⟩, trivial⟩
    rw [cls_next p hi', h4, h5]; rfl
   ·replace h5 : decide (((p.rules.getD i default).all.length : Int) > 0) = false := h5
    conv => whnf
    refine .mk (by simp only [okI, Rw.rng] at *; omega) ?_
    conv => whnf
    refine ⟨i + 1, [0, 1, 58], by omega, by omega, ⟨⟨_, rfl, .eq rfl⟩, trivial⟩, ⟨⟨_, rfl, .eq rfl⟩, ⟨_, rfl, .eq rfl⟩, ⟨_, rfl, .eq rfl⟩, trivial⟩, ⟨rfl, nofun, rfl, rfl, rfl, _, rfl, rfl, rfl, SubA.of_eq rfl⟩, ⟨rfl, nofun, rfl, rfl, rfl, _, rfl, rfl, rfl, SubA.of_eq rfl⟩, ⟨rfl, nofun, rfl, rfl, rfl, _, rfl, rfl, rfl, SubA.of_eq ?_⟩, trivial⟩
    rw [cls_next p hi', h4, h5]; rfl
  ·replace h4 : badR (p.rules.getD i default) = false := h4
   conv => whnf
   refine ⟨fun h5 => ?_, fun h5 => ?_⟩
   ·replace h5 : decide (((p.rules.getD i default).all.length : Int) > 0) = true := h5
    conv => whnf
    refine .mk (by simp only [okI, Rw.rng] at *; omega) ?_
    conv => whnf
    refine ⟨i + 1, [0, 1, 58], by omega, by omega, ⟨⟨_, rfl, .eq rfl⟩, trivial⟩, ⟨⟨_, rfl, .eq rfl⟩, ⟨_, rfl, .eq rfl⟩, ⟨_, rfl, .eq rfl⟩, trivial⟩, ⟨rfl, nofun, rfl, rfl, rfl, _, rfl, rfl, rfl, SubA.of_eq rfl⟩, ⟨rfl, nofun, rfl, rfl, rfl, _, rfl, rfl, rfl, SubA.of_eq rfl⟩, ⟨rfl, nofun, rfl, rfl, rfl, _, rfl, rfl, rfl, SubA.of_eq ?_⟩, trivial⟩
    rw [cls_next p hi', h4, h5]; rfl
   ·replace h5 : decide (((p.rules.getD i default).all.length : Int) > 0) = false := h5
    conv => whnf
    refine .mk (by simp only [okI, Rw.rng] at *; omega) ?_
    conv => whnf
    refine ⟨i + 1, [0, 1, 58], by omega, by omega, ⟨⟨_, rfl, .eq rfl⟩, trivial⟩, ⟨⟨_, rfl, .eq rfl⟩, ⟨_, rfl, .eq rfl⟩, ⟨_, rfl, .eq rfl⟩, trivial⟩, ⟨rfl, nofun, rfl, rfl, rfl, _, rfl, rfl, rfl, SubA.of_eq rfl⟩, ⟨rfl, nofun, rfl, rfl, rfl, _, rfl, rfl, rfl, SubA.of_eq rfl⟩, ⟨rfl, nofun, rfl, rfl, rfl, _, rfl, rfl, rfl, SubA.of_eq ?_⟩, trivial⟩
    rw [cls_next p hi', h4, h5]; rfl
 have hi' : p.rules.length ≤ i := by simpa using h3
 have e : i = p.rules.length := Nat.le_antisymm hi hi'
 subst e
 conv => whnf
 refine EndZ.eqv ?_
 rw [classE, h1', classOf]
 simp only [clsAt, List.take_length]
 rfl
theorem okN_not {x : Int} : (decide (x < 0) || decide (1048576 < x)) = !(okN x) := by
 unfold okN; rw [Bool.eq_iff_iff]; simp
def velE (p : Prot) (e : Elem) : Bool := ((((e.counts.length : Int) != p.states.length) || !(e.counts.all okN)) || decide (e.value < 0)) || decide (e.value ≥ max 1 (p.values.length : Int))
theorem S.cover_validElement (p : Prot) (e : Elem) (hp : SmallP p) (he : e.counts.length < 2^30) : SpecZ Tryz.prog F.cover_validElement [.dat (.prot p), .dat (.elem e)] (.int (whenE (velE p e) 1)) := by
 have g1 := hp.states
 have g3 := hp.values
 refine SpecZ.of Bd.cover_validElement (by simp) rfl rfl ?_
 conv => whnf
 repeat (refine VC.mk (by exact fun h => h) ?_; conv => whnf)
 refine CallZ.pureG (fun _ => S.cover_inRange e.counts false (by omega)) rfl ?_
 conv => whnf
 repeat (refine VC.mk (by first | exact fun h => h | exact fun h => ⟨h, h⟩ | (intro h; rw [h]; rfl)) ?_; conv => whnf)
 refine ⟨fun h1 => ?_, fun h1 => ?_⟩
 ·conv => whnf
  exact EndZ.int (by rw [show velE p e = true from h1]; rfl)
 ·conv => whnf
  exact EndZ.int (by rw [show velE p e = false from h1]; rfl)
theorem vel_eq (p : Prot) (e : Elem) : velE p e = (((((e.counts.length : Int) != p.states.length) || decide (e.value < 0)) || decide (e.value ≥ max 1 (p.values.length : Int))) || !(e.counts.all okN)) := by
 unfold velE
 cases ((e.counts.length : Int) != p.states.length) <;> cases (e.counts.all okN) <;> cases decide (e.value < 0) <;> cases decide (e.value ≥ max 1 (p.values.length : Int)) <;> rfl
theorem S.r05_Fits (p : Prot) (e : Elem) (hp : SmallP p) (he : e.counts.length < 2^30) : SpecZ Tryz.prog F.r05_Fits [.dat (.prot p), .dat (.elem e)] (.bool (!(velE p e))) := by
 have g1 := hp.states
 have g3 := hp.values
 refine SpecZ.of Bd.r05_Fits (by simp) rfl rfl ?_
 conv => whnf
 repeat (refine VC.mk (by first | exact fun h => h | exact fun h => ⟨h, h⟩ | (intro h; rw [h]; rfl)) ?_; conv => whnf)
 refine ⟨fun h1 => ?_, fun h1 => ?_⟩
 ·conv => whnf
  refine EndZ.bool ?_
  rw [vel_eq, show ((((e.counts.length : Int) != p.states.length) || decide (e.value < 0)) || decide (e.value ≥ max 1 (p.values.length : Int))) = true from h1]; rfl
 conv => whnf
 refine LoopZ.same [2, 3] (fun i : Nat => [(5, .int i)]) (fun i => i ≤ e.counts.length ∧ (e.counts.take i).all okN = true) (fun i => e.counts.length - i) 0 rfl (by decide) rfl (fun _ => rfl) ⟨by omega, by simp⟩ ⟨⟨_, rfl, rfl⟩, trivial⟩ ?_
 conv => whnf
 refine ⟨rfl, ?_⟩
 rintro i ⟨hi, hall⟩
 conv => whnf
 refine ⟨fun h3 => ?_, fun h3 => ?_⟩
 ·have hi' : i < e.counts.length := by simpa using h3
  conv => whnf
  repeat (refine VC.mk (by first | exact fun h => h | (intro h; rw [h]; rfl) | (intro h; (repeat' apply And.intro) <;> first | exact h | omega | (simp only [Rw.rngE]; omega) | (simp only [Rw.rng]; omega)) | (simp only [okI, Rw.rng] at *; omega)) ?_; conv => whnf)
  refine ⟨fun h4 => ?_, fun h4 => ?_⟩
  ·conv => whnf
   refine EndZ.bool ?_
   replace h4 : (decide (e.counts.getD i 0 < 0) || decide (1048576 < e.counts.getD i 0)) = true := h4
   rw [okN_not] at h4
   rw [vel_eq, all_of_get (d := 0) hi' (by simpa using h4)]; simp
  ·conv => whnf
   refine .mk (by simp only [okI, Rw.rng] at *; omega) ?_
   conv => whnf
   replace h4 : (decide (e.counts.getD i 0 < 0) || decide (1048576 < e.counts.getD i 0)) = false := h4
   rw [okN_not] at h4
   refine ⟨i + 1, ⟨by omega, ?_⟩, by omega, ⟨⟨_, rfl, rfl⟩, trivial⟩, ?_, rfl⟩
   ·rw [all_take1 (d := 0) hi' hall]; simpa using h4
   ·repeat' (first | exact trivial | exact ⟨_, rfl, rfl⟩ | constructor)
 ·have hi' : e.counts.length ≤ i := by simpa using h3
  rw [List.take_of_length_le hi'] at hall
  conv => whnf
  refine EndZ.bool ?_
  rw [vel_eq, hall, show ((((e.counts.length : Int) != p.states.length) || decide (e.value < 0)) || decide (e.value ≥ max 1 (p.values.length : Int))) = false from h1]; rfl
end Go.Proofs.YtgokbcjkbdabnaaGreatDoor
