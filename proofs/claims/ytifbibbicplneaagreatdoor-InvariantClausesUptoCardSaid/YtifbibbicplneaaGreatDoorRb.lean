/-
 The two programs' rules for a protocol's rules say the same. No condition.
-/
import Derived.Test.YtifbibbicplneaaGreatDoorRa
import Derived.Test.YtifbibbicplneaaGreatDoorLf
namespace Go.Proofs.YtifbibbicplneaaGreatDoor
open Go.Ab Go.Proofs
theorem vg {x n : Int} : (!(gu x 0 (n - 1))) = nK x n := by rw [oC, Bool.not_not]
theorem vals_eq (p : aS) (r : Rule) : yV p r = ((decide (r.read < -1) || decide (r.read ≥ p.values.length)) || (decide (r.write < -1) || decide (r.write ≥ p.values.length))) := by
 simp only [yV, vg, nK]
 rw [Bool.eq_iff_iff]; simp; omega
theorem XU (a b : Bool) (v : Int) (r : List Int) (h : v ≠ 0) : aQ (cu (a || b) v :: r) = aQ (cu a v :: cu b v :: r) := by
 cases a <;> cases b <;> simp [cu, aQ, h]
theorem MZ (p : aS) (l : List y8) (r : List Int) : aQ (wI p l :: r) = aQ (jW p l :: cu (decide ((l.length : Int) > 2)) 4 :: r) := by
 by_cases h : jW p l = 0
 ·rw [show wI p l = cu (decide ((l.length : Int) > 2)) 4 from if_pos h, h]; rfl
 ·rw [show wI p l = jW p l from if_neg h, fN h, fN h]
theorem RP {c d : Bool} : (bif c then true else d) = (c || d) := by cases c <;> rfl
theorem len_nil {α : Type} {l : List α} (h : decide ((l.length : Int) > 0) = false) : l = [] := by
 cases l with
 | nil => rfl
 | cons a r => simp at h
theorem J4 {r : Rule} {t : Int} (h : lV r t = false) :
  (r.kind ≠ 1 → r.guards = [] ∧ r.ex = [] ∧ r.all = [] ∧ r.send = []) ∧ (r.kind ≠ 1 → r.kind ≠ 2 → r.kind ≠ 3 → r.read = -1 ∧ r.write = -1) ∧
  (r.kind ≠ 3 → r.response = []) ∧ (r.kind ≠ 5 → r.direction = 0) ∧ (r.kind ≠ 4 → r.pos = 0 ∧ r.left = [] ∧ r.right = []) ∧ (¬(r.kind = 4 ∧ t = 4) → r.parent = []) := by
 simp only [lV, RP, Bool.or_eq_false_iff] at h
 obtain ⟨h1, h2, h3, ⟨h4, h5⟩, h6, h7⟩ := h
 refine ⟨fun k => ?_, fun k1 k2 k3 => ?_, fun k => ?_, fun k => ?_, fun k => ?_, fun k => ?_⟩
 ·simp only [beq_eq_false_iff_ne.2 k, Bool.not_false, Bool.true_and, Bool.or_eq_false_iff] at h1
  exact ⟨len_nil h1.1.1.1, len_nil h1.1.1.2, len_nil h1.1.2, len_nil h1.2⟩
 ·simp only [beq_eq_false_iff_ne.2 k1, beq_eq_false_iff_ne.2 k2, beq_eq_false_iff_ne.2 k3, Bool.not_false, Bool.true_and, Bool.or_eq_false_iff] at h2
  exact ⟨Qd h2.1, Qd h2.2⟩
 ·simp only [beq_eq_false_iff_ne.2 k, Bool.not_false, Bool.true_and] at h4
  exact len_nil h4
 ·simp only [beq_eq_false_iff_ne.2 k, Bool.not_false, Bool.true_and] at h5
  exact Qd h5
 ·simp only [beq_eq_false_iff_ne.2 k, Bool.not_false, Bool.true_and, Bool.or_eq_false_iff] at h6
  exact ⟨Qd h6.1.1, len_nil h6.1.2, len_nil h6.2⟩
 ·refine len_nil ?_
  rw [Bool.and_eq_false_iff] at h7
  rcases h7 with h7 | h7
  ·exact h7
  ·simp only [Bool.not_eq_false', Bool.and_eq_true, beq_iff_eq] at h7
   exact absurd h7 k
theorem kind_eq {r : Rule} {t : Int} : ((!(gu r.kind 1 5) || (decide (r.kind ≤ 3) != (t == 1))) || lV r t) = (!(uh r.kind t) || kM r t) := by
 by_cases hk : 1 ≤ r.kind ∧ r.kind ≤ 5
 ·rw [zo hk]
  congr 1
  have hk' : r.kind = 1 ∨ r.kind = 2 ∨ r.kind = 3 ∨ r.kind = 4 ∨ r.kind = 5 := by omega
  rcases hk' with e | e | e | e | e <;> rw [e] <;> cases ht : (t == 1) <;> simp [gu, uh, ht]
 ·have h1 : gu r.kind 1 5 = false := by rw [gu, Bool.and_eq_false_iff]; simp; omega
  have h2 : uh r.kind t = false := by
   have : r.kind ≠ 1 ∧ r.kind ≠ 2 ∧ r.kind ≠ 3 ∧ r.kind ≠ 4 ∧ r.kind ≠ 5 := by omega
   obtain ⟨a, b, c, d, e⟩ := this
   simp [uh, a, b, c, d, e]
  rw [h1, h2]; rfl
theorem Gu (p : aS) (r : Rule) : (vV p r != 0) = (nK r.fr p.states.length || nK r.to p.states.length) := by
 simp only [vV, bW]
 cases nK r.fr p.states.length <;> cases nK r.to p.states.length <;> rfl
theorem abJ (p : aS) (r : Rule) (h : (vV p r != 0) = true) : vV p r = 5 := by
 rw [Gu] at h
 simp only [vV, bW]
 revert h
 cases nK r.fr p.states.length <;> cases nK r.to p.states.length <;> intro h <;> first | rfl | cases h
theorem Ac (n : Int) : dJ [] n = 0 := rfl
theorem Vt (x : Int) : aQ [x, 0, 0, 0, 0, 0, 0] = aQ [x] := by
 simp only [aQ]; simp
theorem BK {a : Int} {X Y : List Int} (h : aQ X = aQ Y) : aQ (a :: X) = aQ (a :: Y) := by simp only [aQ, h]
theorem Rz (x : Int) : aQ [x, 0, 0, 0, 0, 0, 0, 0] = aQ [x] := by
 simp only [aQ]; simp
theorem RD (x : Int) : aQ [x, 0, 0] = aQ [x] := by
 simp only [aQ]; simp
theorem Jo (p : aS) (r : Rule) : aQ [cu (yV p r) 5, 0, 0, 0, 0, 0, 0, 0] = aQ [jE p r.read, jE p r.write] := by
 rw [vals_eq, XU _ _ _ _ (by decide)]
 exact BK (Rz _)
theorem XV (p : aS) (i : Nat) : xY p i = fV p i := by
 simp only [xY, fV, qX, qw]
 generalize p.rules.getD i default = r
 cases hv : validName r.name with
 | false => rfl
 | true =>
 cases ha : (p.rules.take i).any (fun x => x.name == r.name) with
 | true => rfl
 | false =>
 simp only [F9, kind_eq, Bool.not_true, Bool.or_false, cond_false]
 cases hk : (!(uh r.kind p.topology) || kM r p.topology) with
 | true => rfl
 | false =>
 have hk2 := hk
 rw [← kind_eq, Bool.or_eq_false_iff, Bool.or_eq_false_iff, Bool.not_eq_false'] at hk2
 obtain ⟨⟨k1, _⟩, k2⟩ := hk2
 obtain ⟨u1, u2, u3, u4, u5, u6⟩ := J4 k2
 have hk' : r.kind = 1 ∨ r.kind = 2 ∨ r.kind = 3 ∨ r.kind = 4 ∨ r.kind = 5 := by
  simp only [gu, Bool.and_eq_true, decide_eq_true_eq] at k1; omega
 cases he : (vV p r != 0) with
 | true =>
  rw [abJ p r he]
  rw [Gu] at he
  simp only [F8, vg, he]; rfl
 | false =>
 rw [Gu] at he
 simp only [F8, vg, he, Bool.false_or, cond_false]
 rcases hk' with e | e | e | e | e
 ·have a5 := u5 (by omega)
  have m4 : Df p r = false := by simp [Df, e]
  have d1 : Dh p r = false := by simp [Dh, e]
  have d2 : Di p r = false := by simp [Di, e]
  simp only [gG, m4, d1, d2, a5.2.1, a5.2.2, u6 (by omega), e, Ac, Int.reduceBEq, Bool.or_self, Bool.false_and, cond_false, cond_true]
  rw [MZ]
  refine BK (BK (BK (BK ?_)))
  rw [vals_eq, XU _ _ _ _ (by decide)]
  refine BK (BK ?_)
  exact Vt _
 ·obtain ⟨g1, g2, g3, g4⟩ := u1 (by omega)
  have a5 := u5 (by omega)
  have m4 : Df p r = false := by simp [Df, e]
  have d1 : Dh p r = false := by simp [Dh, e]
  have d2 : Di p r = false := by simp [Di, e]
  simp only [gG, m4, d1, d2, g1, g2, g3, g4, a5.2.1, a5.2.2, u6 (by omega), e, Ac, Int.reduceBEq, Bool.or_false, Bool.true_and, cond_false, cond_true, bW]
  cases nK r.jl p.states.length with
  | true => rfl
  | false =>
   cases nK r.Du p.states.length with
   | true => rfl
   | false => exact Jo p r
 ·obtain ⟨g1, g2, g3, g4⟩ := u1 (by omega)
  have a5 := u5 (by omega)
  have m4 : Df p r = false := by simp [Df, e]
  have d1 : Dh p r = false := by simp [Dh, e]
  have d2 : Di p r = false := by simp [Di, e]
  simp only [gG, m4, d1, d2, g1, g2, g3, g4, a5.2.1, a5.2.2, u6 (by omega), e, Ac, Int.reduceBEq, Bool.or_self, Bool.false_and, cond_false, cond_true, Dx]
  cases ((r.response.length : Int) != p.states.length) with
  | true => rfl
  | false =>
   simp only [cond_false]
   by_cases hz : oV r.response p.states.length = 0
   ·rw [hz]; exact Jo p r
   ·rw [show (oV r.response p.states.length != 0) = true by simpa using hz, fN hz]; rfl
 ·obtain ⟨g1, g2, g3, g4⟩ := u1 (by omega)
  obtain ⟨v1, v2⟩ := u2 (by omega) (by omega) (by omega)
  have m4 : Df p r = XW p r := by
   simp only [Df, XW, e, nV]; rfl
  have d1 : Dh p r = false := by simp [Dh, e]
  have d2 : Di p r = false := by simp [Di, e]
  have vv : yV p r = false := by simp [yV, v1, v2]
  simp only [gG, m4, d1, d2, vv, g1, g2, g3, g4, e, Ac, Int.reduceBEq, Bool.or_self, Bool.false_and, cond_false, cond_true]
  exact BK (BK (BK (RD _)))
 ·obtain ⟨g1, g2, g3, g4⟩ := u1 (by omega)
  obtain ⟨v1, v2⟩ := u2 (by omega) (by omega) (by omega)
  have a5 := u5 (by omega)
  have m4 : Df p r = false := by simp [Df, e]
  have vv : yV p r = false := by simp [yV, v1, v2]
  have d1 : Dh p r = ((p.topology == 4) && (decide (r.direction < 3) || decide (r.direction > 4))) := by
   simp only [Dh, e, nV]; rfl
  have d2 : Di p r = (!(p.topology == 4) && (decide (r.direction < 1) || decide (r.direction > 2))) := by
   simp only [Di, e, nV]; rfl
  simp only [gG, m4, d1, d2, vv, g1, g2, g3, g4, a5.2.1, a5.2.2, u6 (by omega), e, Ac, Int.reduceBEq, Bool.or_true, Bool.true_and, cond_false, bW]
  cases nK r.jl p.states.length with
  | true => cases (p.topology == 4) <;> rfl
  | false =>
   cases nK r.Du p.states.length with
   | true => cases (p.topology == 4) <;> rfl
   | false =>
    cases (p.topology == 4) with
    | true => cases (decide (r.direction < 3) || decide (r.direction > 4)) <;> rfl
    | false => cases (decide (r.direction < 1) || decide (r.direction > 2)) <;> rfl
theorem XY {p : aS} : (!(gu p.topology 1 4) || !(gu p.fault 0 3)) = ug p := by
 simp only [nV, ug, Bool.or_assoc]
theorem S.Vu (p : aS) (i : Nat) (hi : i < p.rules.length) (hp : bg p) : aj Tryz.prog 161 [.dat (.bT p), .int i] (.int (fV p i)) := by
 rw [← XV]; exact S.Aa p i hi hp
theorem ZL {h : Hz} {j : Nat} {Z : Nat → Prop} {l : List Str} (hz : Z j) (q : h.get j = some (.row 9 0 (.strs l) [])) : T.sub Z h.au (V.row 0 false (.strs l)).aH (V.own j).aH := by
 show T.sub Z h.au (.sl 0 false (l.map eS)) (.own j)
 simp only [T.sub]
 refine ⟨trivial, hz, ?_, by decide, 9, ?_⟩
 ·rw [iq]; intro t ht; obtain ⟨x, _, rfl⟩ := List.mem_map.1 ht; rfl
 ·have := aN q
  rw [this]; simp [OV.aF, Rw.aY, V.aY]
theorem S.nX (p : aS) (hp : bg p) : aj Tryz.prog 133 [.dat (.bT p)] (.int (bI p)) := by
 have g1 := hp.states; have g2 := hp.messages; have g3 := hp.values; have g4 := hp.bV; have g5 := hp.initial; have g6 := hp.leader; have g7 := hp.rules
 refine aj.of Bd.nX (by simp) rfl rfl ?_
 conv => whnf
 refine ah.pure (S.jo p.name) rfl ?_
 conv => whnf
 refine ⟨fun h1 => ?_, fun h1 => ?_⟩
 ·conv => whnf
  exact ak.int (by rw [bI, h1]; rfl)
 conv => whnf
 refine ah.pure (S.aX p.topology 1 4) rfl ?_
 conv => whnf
 repeat (refine VC.mk id ?_; conv => whnf)
 refine ah.cO (fun _ => S.aX p.fault 0 3) rfl ?_
 conv => whnf
 repeat (refine VC.mk (by first | exact id | (intro h; rw [h]; rfl)) ?_; conv => whnf)
 refine ⟨fun h2 => ?_, fun h2 => ?_⟩
 ·conv => whnf
  rw [XY] at h2
  exact ak.int (by rw [bI, h1, h2]; rfl)
 rw [XY] at h2
 conv => whnf
 refine ⟨fun h3 => ?_, fun h3 => ?_⟩
 ·conv => whnf
  exact ak.int (by rw [bI, h1, h2, show ((p.states.length : Int) == 0) = true from h3]; rfl)
 replace h3 : ((p.states.length : Int) == 0) = false := h3
 conv => whnf
 repeat (refine VC.mk (by first | exact id | (intro h; rw [h]; rfl)) ?_; conv => whnf)
 refine ⟨fun h4 => ?_, fun h4 => ?_⟩
 ·conv => whnf
  exact ak.int (by rw [bI, h1, h2, h3, show uX p = true from h4]; rfl)
 replace h4 : uX p = false := h4
 have h0 : 0 < p.states.length := by
  rcases Nat.eq_zero_or_pos p.states.length with e | e
  ·rw [e] at h3; exact absurd h3 (by decide)
  ·exact e
 have hlen : (allNames p).length < 2^30 := by simp only [allNames, List.length_append]; omega
 conv => whnf
 repeat (refine VC.mk (by simp only [nJ, nD, Rw.len, List.length_append]; omega) ?_; conv => whnf)
 refine aG.fz 3 57 0 (.strs (allNames p)) rfl rfl (ZL rfl rfl) ?_
 conv => whnf
 refine aG.same [1, 3] (fun i : Nat => [(4, .int i)]) (fun i => i ≤ (allNames p).length ∧ (List.range i).any (Na (allNames p)) = false) (fun i => (allNames p).length - i) 0 rfl (by decide) rfl (fun _ => rfl) ⟨Nat.zero_le _, rfl⟩ ⟨⟨_, rfl, rfl⟩, trivial⟩ ?_
 conv => whnf
 refine ⟨rfl, ?_⟩
 rintro i ⟨hi, hall⟩
 conv => whnf
 refine ⟨fun h5 => ?_, fun h5 => ?_⟩
 ·have hi' : i < (allNames p).length := by have : (i : Int) < ((allNames p).length : Int) := of_decide_eq_true h5; omega
  conv => whnf
  refine .mk (by simp only [Rw.rng] at *; omega) ?_
  conv => whnf
  refine ah.pure (S.jo ((allNames p).getD i [])) rfl ?_
  conv => whnf
  repeat (refine VC.mk (by first | exact id | exact fun h => ⟨h, h⟩ | (intro h; (repeat' apply And.intro) <;> first | exact h | omega | (simp only [Rw.mD]; omega) | (simp only [Rw.rng]; omega))) ?_; conv => whnf)
  refine ah.cO (fun _ => S.pV ((allNames p).take i) ((allNames p).getD i []) _ (by rw [List.length_take]; omega)) rfl ?_
  conv => whnf
  refine .mk (by intro h; rw [h]; rfl) ?_
  conv => whnf
  refine ⟨fun h6 => ?_, fun h6 => ?_⟩
  ·conv => whnf
   refine ak.int ?_
   rw [bI, h1, h2, h3, h4, show yM p = 2 by rw [yM, EI.2 ⟨i, hi', h6⟩]; rfl]; rfl
  ·conv => whnf
   refine .mk (by simp only [okI] at *; omega) ?_
   conv => whnf
   refine ⟨i + 1, ⟨by omega, ?_⟩, by omega, ⟨⟨_, rfl, rfl⟩, trivial⟩, ?_, rfl⟩
   ·rw [List.range_succ, List.any_append, hall]
    simp only [List.any_cons, List.any_nil, Bool.or_false, Bool.false_or]; exact h6
   ·repeat' (first | exact trivial | exact ⟨_, rfl, rfl⟩ | constructor)
 have hi' : (allNames p).length ≤ i := by have : ¬ ((i : Int) < ((allNames p).length : Int)) := of_decide_eq_false h5; omega
 have e : i = (allNames p).length := Nat.le_antisymm hi hi'
 subst e
 have h5 : yM p = 0 := by rw [yM, hall]; rfl
 clear hi hall hi' hlen
 conv => whnf
 repeat (refine VC.mk (by first | exact id | (intro h; rw [h]; rfl) | (intro h; simp [h]; done) | (intro h; simp_all; done)) ?_; conv => whnf)
 refine ⟨fun h6 => ?_, fun h6 => ?_⟩
 ·conv => whnf
  exact ak.int (by rw [bI, h1, h2, h3, h4, h5, show PI p = true from h6]; rfl)
 replace h6 : PI p = false := h6
 conv => whnf
 refine aG.same [1] (fun i : Nat => [(5, .int i)]) (fun i => i ≤ p.bV.length ∧ (p.bV.take i).any (fun l => !(Px l)) = false) (fun i => p.bV.length - i) 0 rfl (by decide) rfl (fun _ => rfl) ⟨by omega, by simp⟩ ⟨⟨_, rfl, rfl⟩, trivial⟩ ?_
 conv => whnf
 refine ⟨rfl, ?_⟩
 rintro i ⟨hi, hall⟩
 conv => whnf
 refine ⟨fun h7 => ?_, fun h7 => ?_⟩
 ·have hi' : i < p.bV.length := by simpa using h7
  conv => whnf
  refine .mk (by simp only [Rw.rng] at *; omega) ?_
  conv => whnf
  refine ah.pure (S.yL (p.bV.getD i default)) rfl ?_
  conv => whnf
  refine ⟨fun h8 => ?_, fun h8 => ?_⟩
  ·conv => whnf
   exact ak.int (by rw [bI, h1, h2, h3, h4, h5, h6, fZ (d := default) hi' h8]; rfl)
  ·conv => whnf
   refine .mk (by simp only [okI] at *; omega) ?_
   conv => whnf
   refine ⟨i + 1, ⟨by omega, ?_⟩, by omega, ⟨⟨_, rfl, rfl⟩, trivial⟩, ?_, rfl⟩
   ·rw [jF (d := default) hi' hall]; exact h8
   ·repeat' (first | exact trivial | exact ⟨_, rfl, rfl⟩ | constructor)
 have hi' : p.bV.length ≤ i := by simpa using h7
 rw [List.take_of_length_le hi'] at hall
 clear hi hi' h7
 conv => whnf
 refine ah.pure (S.iF p.initial p.states.length false (by omega) ⟨by omega, by omega⟩) rfl ?_
 conv => whnf
 refine ⟨fun h7 => ?_, fun h7 => ?_⟩
 ·replace h7 := Gh h7
  have : wY p = dJ p.initial p.states.length := fN h7
  conv => whnf
  exact ak.int (by rw [bI, h1, h2, h3, h4, h5, h6, hall, this, show (dJ p.initial p.states.length != 0) = true by simpa using h7]; rfl)
 replace h7 := uZ h7
 conv => whnf
 refine ⟨fun h8 => ?_, fun h8 => ?_⟩
 ·replace h8 : ((p.initial.length : Int) == 0) = true := h8
  have : wY p = 1 := by rw [wY, h7, h8]; rfl
  conv => whnf
  exact ak.int (by rw [bI, h1, h2, h3, h4, h5, h6, hall, this]; rfl)
 replace h8 : ((p.initial.length : Int) == 0) = false := h8
 conv => whnf
 refine ah.pure (S.iF p.leader p.states.length false (by omega) ⟨by omega, by omega⟩) rfl ?_
 conv => whnf
 refine ⟨fun h9 => ?_, fun h9 => ?_⟩
 ·replace h9 := Gh h9
  have : wY p = dJ p.leader p.states.length := by rw [wY, h7, h8]; exact fN h9
  conv => whnf
  exact ak.int (by rw [bI, h1, h2, h3, h4, h5, h6, hall, this, show (dJ p.leader p.states.length != 0) = true by simpa using h9]; rfl)
 replace h9 := uZ h9
 have h10 : wY p = 0 := by rw [wY, h7, h8, h9]; rfl
 conv => whnf
 refine aG.same [1] (fun i : Nat => [(8, .int i)]) (fun i => i ≤ p.rules.length ∧ BO p = aQ (((List.range p.rules.length).drop i).map (fV p))) (fun i => p.rules.length - i) 0 rfl (by decide) rfl (fun _ => rfl) ⟨by omega, by simp [BO]⟩ ⟨⟨_, rfl, rfl⟩, trivial⟩ ?_
 conv => whnf
 refine ⟨rfl, ?_⟩
 rintro i ⟨hi, hr⟩
 conv => whnf
 refine ⟨fun h11 => ?_, fun h11 => ?_⟩
 ·have hi' : i < p.rules.length := by simpa using h11
  rw [Jp hi'] at hr
  simp only [aQ] at hr
  conv => whnf
  refine ah.pure (S.Vu p i hi' hp) rfl ?_
  conv => whnf
  refine ⟨fun h12 => ?_, fun h12 => ?_⟩
  ·conv => whnf
   have VW : fV p i ≠ 0 := Gh h12
   rw [if_neg VW] at hr
   exact ak.int (by rw [bI, h1, h2, h3, h4, h5, h6, hall, h10, hr, show (fV p i != 0) = true from h12]; rfl)
  ·conv => whnf
   refine .mk (by simp only [okI] at *; omega) ?_
   conv => whnf
   have VW : fV p i = 0 := uZ h12
   rw [if_pos VW] at hr
   refine ⟨i + 1, ⟨by omega, hr⟩, by omega, ⟨⟨_, rfl, rfl⟩, trivial⟩, ?_, rfl⟩
   repeat' (first | exact trivial | exact ⟨_, rfl, rfl⟩ | constructor)
 have hi' : p.rules.length ≤ i := by simpa using h11
 rw [List.drop_eq_nil_of_le (by simpa using hi')] at hr
 conv => whnf
 refine ah.pure (S.qW p hp) rfl ?_
 conv => whnf
 refine ⟨fun h12 => ?_, fun h12 => ?_⟩
 ·conv => whnf
  exact ak.int (by rw [bI, h1, h2, h3, h4, h5, h6, hall, h10, hr, show decide (((xW p.rules).length : Int) > 3) = true from h12]; rfl)
 ·conv => whnf
  exact ak.int (by rw [bI, h1, h2, h3, h4, h5, h6, hall, h10, hr, show decide (((xW p.rules).length : Int) > 3) = false from h12]; rfl)
def PK (p : aS) (i : Nat) : V := .agg [.bool (((p.topology == 1) && ((p.values.length : Int) == 0)) && (p.rules.take i).foldl PL true), .bool (tX p && !((p.rules.take i).foldl Vw false)), .bool ((p.topology == 2) || (p.topology == 3)), .bool (p.topology == 4), .bool (tX p && decide ((p.states.length : Int) ≤ 4))]
def badR (r : Rule) : Bool := r.kind != 1 || decide (r.fr ≥ r.to) || decide ((r.ex.length : Int) > 0) || decide ((r.all.length : Int) > 0)
theorem Zw {acc : Bool} {r : Rule} (h : badR r = true) : PL acc r = false := by
 simp only [badR, Bool.or_eq_true, bne_iff_ne, decide_eq_true_eq] at h
 simp only [PL]
 rw [Bool.eq_false_iff]; intro q
 simp only [Bool.and_eq_true, beq_iff_eq, decide_eq_true_eq] at q
 omega
theorem abK {acc : Bool} {r : Rule} (h : badR r = false) : PL acc r = acc := by
 simp only [badR, Bool.or_eq_false_iff, bne_eq_false_iff_eq, decide_eq_false_iff_not] at h
 obtain ⟨⟨⟨a, b⟩, c⟩, d⟩ := h
 simp only [PL]
 rw [show (r.kind == 1) = true from beq_iff_eq.2 a, decide_eq_true (by omega), show ((r.ex.length : Int) == 0) = true from beq_iff_eq.2 (by omega), show ((r.all.length : Int) == 0) = true from beq_iff_eq.2 (by omega)]
 simp
theorem adA (p : aS) : PK p 0 = .agg [.bool ((p.topology == 1) && ((p.values.length : Int) == 0)), .bool (tX p), .bool ((p.topology == 2) || (p.topology == 3)), .bool (p.topology == 4), .bool (tX p && decide ((p.states.length : Int) ≤ 4))] := by
 simp [PK]
theorem Es (p : aS) {i : Nat} (hi : i < p.rules.length) : PK p (i + 1) =
  .agg [.bool (bif badR (p.rules.getD i default) then false else ((p.topology == 1) && ((p.values.length : Int) == 0)) && (p.rules.take i).foldl PL true),
   .bool (bif decide (((p.rules.getD i default).all.length : Int) > 0) then false else tX p && !((p.rules.take i).foldl Vw false)), .bool ((p.topology == 2) || (p.topology == 3)), .bool (p.topology == 4), .bool (tX p && decide ((p.states.length : Int) ≤ 4))] := by
 simp only [PK, zZ (d := default) hi]
 cases hb : badR (p.rules.getD i default) with
 | true =>
  rw [Zw hb, Vw]
  cases decide (((p.rules.getD i default).all.length : Int) > 0) <;> simp
 | false =>
  rw [abK hb, Vw]
  cases decide (((p.rules.getD i default).all.length : Int) > 0) <;> simp
theorem S.nZ (p : aS) (hp : bg p) : aj Tryz.prog 86 [.dat (.bT p)] (FH p) := by
 have g1 := hp.states; have g2 := hp.messages; have g3 := hp.values; have g4 := hp.bV; have g7 := hp.rules
 refine aj.of Bd.nZ (by simp) rfl rfl ?_
 conv => whnf
 refine ah.pure (S.nX p hp) rfl ?_
 conv => whnf
 refine ⟨fun h1 => ?_, fun h1 => ?_⟩
 ·conv => whnf
  refine ak.eqv ?_
  rw [FH, h1]; rfl
 have h1' : bI p = 0 := uZ h1
 conv => whnf
 repeat (refine VC.mk (by first | exact id | (intro h; rw [h]; rfl)) ?_; conv => whnf)
 refine aG.objs 100 [1, 2, 7] (fun i : Nat => [(8, .int i)]) (fun i => [(0, .box 27 11 (.dat (.bT p))), (1, .box 122 6 (acU Dz)), (58, .box 122 6 (PK p i))]) (fun i => i ≤ p.rules.length) (fun i => p.rules.length - i) 0 [0, 1, 58] rfl (by decide) (fun _ => rfl) (Nat.zero_le _) ?_ ?_ ?_
 ·exact ⟨⟨_, rfl, .eq rfl⟩, trivial⟩
 ·refine ⟨⟨rfl, nofun, rfl, rfl, rfl, _, rfl, rfl, rfl, bC.of_eq rfl⟩, ⟨rfl, nofun, rfl, rfl, rfl, _, rfl, rfl, rfl, bC.of_eq rfl⟩, ⟨rfl, nofun, rfl, rfl, rfl, _, rfl, rfl, rfl, bC.of_eq ?_⟩, trivial⟩
  rw [adA]; rfl
 conv => whnf
 refine ⟨⟨⟨_, rfl, .eq rfl⟩, ⟨_, rfl, .eq rfl⟩, ⟨_, rfl, .eq rfl⟩, trivial⟩, rfl, ?_⟩
 rintro i hi
 have g8 := hp.rule i
 have g9 := g8.ex; have g10 := g8.all
 conv => whnf
 refine ⟨fun h3 => ?_, fun h3 => ?_⟩
 ·have hi' : i < p.rules.length := by simpa using h3
  conv => whnf
  repeat (refine VC.mk (by first | exact id | exact fun h => ⟨h, h⟩ | (intro h; rw [h]; rfl) | (simp only [Rw.rng] at *; omega)) ?_; conv => whnf)
  refine ⟨fun h4 => ?_, fun h4 => ?_⟩
  ·replace h4 : badR (p.rules.getD i default) = true := h4
   conv => whnf
   refine ⟨fun h5 => ?_, fun h5 => ?_⟩
   ·replace h5 : decide (((p.rules.getD i default).all.length : Int) > 0) = true := h5
    conv => whnf
    refine .mk (by simp only [okI] at *; omega) ?_
    conv => whnf
    refine ⟨i + 1, [0, 1, 58], by omega, by omega, ⟨⟨_, rfl, .eq rfl⟩, trivial⟩, ⟨⟨_, rfl, .eq rfl⟩, ⟨_, rfl, .eq rfl⟩, ⟨_, rfl, .eq rfl⟩, trivial⟩, ⟨rfl, nofun, rfl, rfl, rfl, _, rfl, rfl, rfl, bC.of_eq rfl⟩, ⟨rfl, nofun, rfl, rfl, rfl, _, rfl, rfl, rfl, bC.of_eq rfl⟩, ⟨rfl, nofun, rfl, rfl, rfl, _, rfl, rfl, rfl, bC.of_eq ?_⟩, trivial⟩
    rw [Es p hi', h4, h5]; rfl
   ·replace h5 : decide (((p.rules.getD i default).all.length : Int) > 0) = false := h5
    conv => whnf
    refine .mk (by simp only [okI] at *; omega) ?_
    conv => whnf
    refine ⟨i + 1, [0, 1, 58], by omega, by omega, ⟨⟨_, rfl, .eq rfl⟩, trivial⟩, ⟨⟨_, rfl, .eq rfl⟩, ⟨_, rfl, .eq rfl⟩, ⟨_, rfl, .eq rfl⟩, trivial⟩, ⟨rfl, nofun, rfl, rfl, rfl, _, rfl, rfl, rfl, bC.of_eq rfl⟩, ⟨rfl, nofun, rfl, rfl, rfl, _, rfl, rfl, rfl, bC.of_eq rfl⟩, ⟨rfl, nofun, rfl, rfl, rfl, _, rfl, rfl, rfl, bC.of_eq ?_⟩, trivial⟩
    rw [Es p hi', h4, h5]; rfl
  ·replace h4 : badR (p.rules.getD i default) = false := h4
   conv => whnf
   refine ⟨fun h5 => ?_, fun h5 => ?_⟩
   ·replace h5 : decide (((p.rules.getD i default).all.length : Int) > 0) = true := h5
    conv => whnf
    refine .mk (by simp only [okI] at *; omega) ?_
    conv => whnf
    refine ⟨i + 1, [0, 1, 58], by omega, by omega, ⟨⟨_, rfl, .eq rfl⟩, trivial⟩, ⟨⟨_, rfl, .eq rfl⟩, ⟨_, rfl, .eq rfl⟩, ⟨_, rfl, .eq rfl⟩, trivial⟩, ⟨rfl, nofun, rfl, rfl, rfl, _, rfl, rfl, rfl, bC.of_eq rfl⟩, ⟨rfl, nofun, rfl, rfl, rfl, _, rfl, rfl, rfl, bC.of_eq rfl⟩, ⟨rfl, nofun, rfl, rfl, rfl, _, rfl, rfl, rfl, bC.of_eq ?_⟩, trivial⟩
    rw [Es p hi', h4, h5]; rfl
   ·replace h5 : decide (((p.rules.getD i default).all.length : Int) > 0) = false := h5
    conv => whnf
    refine .mk (by simp only [okI] at *; omega) ?_
    conv => whnf
    refine ⟨i + 1, [0, 1, 58], by omega, by omega, ⟨⟨_, rfl, .eq rfl⟩, trivial⟩, ⟨⟨_, rfl, .eq rfl⟩, ⟨_, rfl, .eq rfl⟩, ⟨_, rfl, .eq rfl⟩, trivial⟩, ⟨rfl, nofun, rfl, rfl, rfl, _, rfl, rfl, rfl, bC.of_eq rfl⟩, ⟨rfl, nofun, rfl, rfl, rfl, _, rfl, rfl, rfl, bC.of_eq rfl⟩, ⟨rfl, nofun, rfl, rfl, rfl, _, rfl, rfl, rfl, bC.of_eq ?_⟩, trivial⟩
    rw [Es p hi', h4, h5]; rfl
 have hi' : p.rules.length ≤ i := by simpa using h3
 have e : i = p.rules.length := Nat.le_antisymm hi hi'
 subst e
 conv => whnf
 refine ak.eqv ?_
 rw [FH, h1', eF]
 simp only [List.take_length]
 rfl
theorem GV {x : Int} : (decide (x < 0) || decide (1048576 < x)) = !(FP x) := by
 unfold FP; rw [Bool.eq_iff_iff]; simp
def Qy (p : aS) : Int := bif bI p != 0 then bI p else bif !(eF p).cover && !(eF p).monadic then 7 else 0
def uY (p : aS) (e : Elem) : Bool := ((((e.counts.length : Int) != p.states.length) || !(e.counts.all FP)) || decide (e.value < 0)) || decide (e.value ≥ max 1 (p.values.length : Int))
def Oi (p : aS) (e : Elem) : Int := bif Qy p != 0 then Qy p else cu (uY p e) 1
theorem acV (p : aS) : Qy p = bif ((bI p == 0) && !(bif bI p != 0 then Dz else eF p).cover && !(bif bI p != 0 then Dz else eF p).monadic) then 7 else bI p := by
 unfold Qy bne
 cases hz : bI p == 0 with
 | true => simp only [Bool.not_true, cond_false, Bool.true_and]; rw [show bI p = 0 from beq_iff_eq.1 hz]
 | false => rfl
theorem S.kN (p : aS) (hp : bg p) : aj Tryz.prog 121 [.dat (.bT p)] (.int (Qy p)) := by
 refine aj.of Bd.kN (by simp) rfl rfl ?_
 conv => whnf
 refine ah.pure (S.iQ p hp) rfl ?_
 conv => whnf
 repeat (refine VC.mk id ?_; conv => whnf)
 refine ⟨fun h1 => ?_, fun h1 => ?_⟩
 ·conv => whnf
  exact ak.int (by rw [acV, h1]; rfl)
 ·conv => whnf
  exact ak.int (by rw [acV, h1]; rfl)
theorem S.jQ (p : aS) (e : Elem) (hp : bg p) (he : e.counts.length < 2^30) : aj Tryz.prog 122 [.dat (.bT p), .dat (.elem e)] (.int (cu (uY p e) 1)) := by
 have g1 := hp.states
 have g3 := hp.values
 refine aj.of Bd.jQ (by simp) rfl rfl ?_
 conv => whnf
 repeat (refine VC.mk id ?_; conv => whnf)
 refine ah.cO (fun _ => S.mV e.counts false (by omega)) rfl ?_
 conv => whnf
 repeat (refine VC.mk (by first | exact id | exact fun h => ⟨h, h⟩ | (intro h; rw [h]; rfl)) ?_; conv => whnf)
 refine ⟨fun h1 => ?_, fun h1 => ?_⟩
 ·conv => whnf
  exact ak.int (by rw [show uY p e = true from h1]; rfl)
 ·conv => whnf
  exact ak.int (by rw [show uY p e = false from h1]; rfl)
theorem S.jI (p : aS) (e : Elem) (hp : bg p) (he : e.counts.length < 2^30) : aj Tryz.prog 79 [.dat (.bT p), .dat (.elem e)] (.int (Oi p e)) := by
 refine aj.of Bd.jI (by simp) rfl rfl ?_
 conv => whnf
 refine ah.pure (S.kN p hp) rfl ?_
 conv => whnf
 refine ⟨fun h1 => ?_, fun h1 => ?_⟩
 ·conv => whnf
  exact ak.int (by rw [Oi, h1]; rfl)
 ·conv => whnf
  refine ah.pure (S.jQ p e hp he) rfl ?_
  conv => whnf
  exact ak.int (by rw [Oi, h1]; rfl)
theorem RF (p : aS) (e : Elem) : uY p e = (((((e.counts.length : Int) != p.states.length) || decide (e.value < 0)) || decide (e.value ≥ max 1 (p.values.length : Int))) || !(e.counts.all FP)) := by
 unfold uY
 cases ((e.counts.length : Int) != p.states.length) <;> cases (e.counts.all FP) <;> cases decide (e.value < 0) <;> cases decide (e.value ≥ max 1 (p.values.length : Int)) <;> rfl
theorem S.zD (p : aS) (e : Elem) (hp : bg p) (he : e.counts.length < 2^30) : aj Tryz.prog 73 [.dat (.bT p), .dat (.elem e)] (.bool (!(uY p e))) := by
 have g1 := hp.states
 have g3 := hp.values
 refine aj.of Bd.zD (by simp) rfl rfl ?_
 conv => whnf
 repeat (refine VC.mk (by first | exact id | exact fun h => ⟨h, h⟩ | (intro h; rw [h]; rfl)) ?_; conv => whnf)
 refine ⟨fun h1 => ?_, fun h1 => ?_⟩
 ·conv => whnf
  refine ak.bool ?_
  rw [RF, show ((((e.counts.length : Int) != p.states.length) || decide (e.value < 0)) || decide (e.value ≥ max 1 (p.values.length : Int))) = true from h1]; rfl
 conv => whnf
 refine aG.same [2, 3] (fun i : Nat => [(5, .int i)]) (fun i => i ≤ e.counts.length ∧ (e.counts.take i).all FP = true) (fun i => e.counts.length - i) 0 rfl (by decide) rfl (fun _ => rfl) ⟨by omega, by simp⟩ ⟨⟨_, rfl, rfl⟩, trivial⟩ ?_
 conv => whnf
 refine ⟨rfl, ?_⟩
 rintro i ⟨hi, hall⟩
 conv => whnf
 refine ⟨fun h3 => ?_, fun h3 => ?_⟩
 ·have hi' : i < e.counts.length := by simpa using h3
  conv => whnf
  repeat (refine VC.mk (by first | exact id | (intro h; rw [h]; rfl) | (intro h; (repeat' apply And.intro) <;> first | exact h | omega | (simp only [Rw.mD]; omega) | (simp only [Rw.rng]; omega)) | (simp only [Rw.rng] at *; omega)) ?_; conv => whnf)
  refine ⟨fun h4 => ?_, fun h4 => ?_⟩
  ·conv => whnf
   refine ak.bool ?_
   replace h4 : (decide (e.counts.getD i 0 < 0) || decide (1048576 < e.counts.getD i 0)) = true := h4
   rw [GV] at h4
   rw [RF, kV (d := 0) hi' (by simpa using h4)]; simp
  ·conv => whnf
   refine .mk (by simp only [okI] at *; omega) ?_
   conv => whnf
   replace h4 : (decide (e.counts.getD i 0 < 0) || decide (1048576 < e.counts.getD i 0)) = false := h4
   rw [GV] at h4
   refine ⟨i + 1, ⟨by omega, ?_⟩, by omega, ⟨⟨_, rfl, rfl⟩, trivial⟩, ?_, rfl⟩
   ·rw [kC (d := 0) hi' hall]; simpa using h4
   ·repeat' (first | exact trivial | exact ⟨_, rfl, rfl⟩ | constructor)
 ·have hi' : e.counts.length ≤ i := by simpa using h3
  rw [List.take_of_length_le hi'] at hall
  conv => whnf
  refine ak.bool ?_
  rw [RF, hall, show ((((e.counts.length : Int) != p.states.length) || decide (e.value < 0)) || decide (e.value ≥ max 1 (p.values.length : Int))) = false from h1]; rfl
theorem S.pF (e : Elem) (hl : e.counts.length < 2^40) : aj Tryz.prog 74 [.dat (.elem e)] (.int (iO e)) := by
 refine aj.of Bd.pF (by simp) rfl rfl ?_
 conv => whnf
 refine ⟨fun h1 => ?_, fun h1 => ?_⟩
 ·have h : 6 < e.counts.length := by
   have : (6 : Int) < e.counts.length := of_decide_eq_true h1
   omega
  conv => whnf
  exact ak.int (by rw [iO, if_pos h])
 have h : ¬ 6 < e.counts.length := by
  have : ¬ (6 : Int) < e.counts.length := of_decide_eq_false h1
  omega
 conv => whnf
 refine aG.same [1] (fun i : Nat => [(4, .int i), (3, .int (e.counts.take i).sum)]) (fun i => i ≤ e.counts.length ∧ (e.counts.take i).all FP = true) (fun i => e.counts.length - i) 0 rfl (by decide) rfl (fun _ => rfl) ⟨by omega, by simp⟩ ⟨⟨_, rfl, rfl⟩, ⟨_, rfl, rfl⟩, trivial⟩ ?_
 conv => whnf
 refine ⟨rfl, ?_⟩
 rintro i ⟨hi, hall⟩
 have hb := Az hall
 have hb' : ((e.counts.take i).length : Int) ≤ 6 := by simp; omega
 conv => whnf
 refine ⟨fun h3 => ?_, fun h3 => ?_⟩
 ·have hi' : i < e.counts.length := by simpa using h3
  have hs := Oq hi'
  conv => whnf
  repeat (refine VC.mk (by first | exact id | (intro h; rw [h]; rfl) | (intro h; (repeat' apply And.intro) <;> first | exact h | omega | (simp only [Rw.mD]; omega) | (simp only [Rw.rng]; omega)) | (simp only [Rw.rng] at *; omega)) ?_; conv => whnf)
  refine ⟨fun h4 => ?_, fun h4 => ?_⟩
  ·conv => whnf
   replace h4 : (decide (e.counts.getD i 0 < 0) || decide (1048576 < e.counts.getD i 0)) = true := h4
   rw [GV] at h4
   exact ak.int (by rw [iO, if_neg h, kV (d := 0) hi' (by simpa using h4)]; rfl)
  ·replace h4 : (decide (e.counts.getD i 0 < 0) || decide (1048576 < e.counts.getD i 0)) = false := h4
   rw [GV] at h4
   have h4' : FP (e.counts.getD i 0) = true := by simpa using h4
   have aag : (e.counts.take (i + 1)).all FP = true := by rw [kC (d := 0) hi' hall]; exact h4'
   have hc := Az aag
   have hc' : ((e.counts.take (i + 1)).length : Int) ≤ 6 := by simp; omega
   conv => whnf
   repeat (refine VC.mk (by first | (simp only [okI, Int.toNat_natCast] at *; rw [← hs]; omega) | (simp only [okI, Rw.rng] at *; omega)) ?_; conv => whnf)
   refine ⟨i + 1, ⟨by omega, aag⟩, by omega, ⟨⟨_, rfl, rfl⟩, ⟨_, rfl, ?_⟩, trivial⟩, ?_, rfl⟩
   ·rw [hs]; simp [V.aH, rY]
   ·repeat' (first | exact trivial | exact ⟨_, rfl, rfl⟩ | constructor)
 ·have hi' : e.counts.length ≤ i := by simpa using h3
  rw [List.take_of_length_le hi'] at hall
  rw [List.take_of_length_le hi']
  conv => whnf
  exact ak.int (by rw [iO, if_neg h, if_pos hall])
end Go.Proofs.YtifbibbicplneaaGreatDoor
