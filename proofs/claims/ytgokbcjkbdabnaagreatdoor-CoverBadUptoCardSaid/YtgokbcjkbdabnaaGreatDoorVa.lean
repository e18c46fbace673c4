/-
 A part of the proof. No condition.
-/
import Derived.Test.YtgokbcjkbdabnaaGreatDoorNb
import Derived.Test.YtgokbcjkbdabnaaGreatDoorLg
namespace Go.Proofs.YtgokbcjkbdabnaaGreatDoor
open Go.Ab Go.Proofs
set_option maxRecDepth 100000
def whenE (b : Bool) (e : Int) : Int := bif b then e else 0
theorem S.protocol_when (b : Bool) (e : Int) : SpecZ Tryz.prog F.protocol_when [.bool b, .int e] (.int (whenE b e)) := by
 refine SpecZ.of Bd.protocol_when (by simp) rfl rfl ?_
 conv => whnf
 refine ⟨fun h => ?_, fun h => ?_⟩
 ·conv => whnf
  exact EndZ.int (by rw [h]; rfl)
 ·conv => whnf
  exact EndZ.int (by rw [h]; rfl)
def outE (i n : Int) : Bool := decide (i < 0) || decide (i ≥ n)
def indexE (i n : Int) : Int := whenE (outE i n) 5
theorem S.protocol_index (i n : Int) : SpecZ Tryz.prog F.protocol_index [.int i, .int n] (.int (indexE i n)) := by
 refine SpecZ.of Bd.protocol_index (by simp) rfl rfl ?_
 conv => whnf
 repeat (refine VC.mk (by first | exact fun h => ⟨h, h⟩ | (intro h; rw [h]; rfl)) ?_; conv => whnf)
 refine CallZ.pure (S.protocol_when (outE i n) 5) rfl ?_
 conv => whnf
 exact EndZ.int rfl
def firstE : List Int → Int
 | [] => 0
 | e :: r => if e = 0 then firstE r else e
theorem S.protocol_first (l : List Int) (f : Bool) (hl : l.length < 2^40) : SpecZ Tryz.prog F.protocol_first [.row 0 f (.ints l)] (.int (firstE l)) := by
 refine SpecZ.of Bd.protocol_first (by simp) rfl rfl ?_
 conv => whnf
 refine LoopZ.same [5, 6] (fun i : Nat => [(7, .int i)]) (fun i => i ≤ l.length ∧ firstE l = firstE (l.drop i)) (fun i => l.length - i) 0 rfl (by decide) rfl (fun _ => rfl) ⟨by omega, by simp⟩ ⟨⟨_, rfl, rfl⟩, trivial⟩ ?_
 conv => whnf
 refine ⟨rfl, ?_⟩
 rintro i ⟨hi, hall⟩
 conv => whnf
 refine ⟨fun h3 => ?_, fun h3 => ?_⟩
 ·have hi' : i < l.length := by simpa using h3
  rw [drop_getD 0 hi'] at hall
  simp only [firstE] at hall
  conv => whnf
  refine .mk (by simp only [okI, Rw.rng] at *; omega) ?_
  conv => whnf
  refine ⟨fun h4 => ?_, fun h4 => ?_⟩
  ·conv => whnf
   refine EndZ.int ?_
   have : l.getD i 0 ≠ 0 := by simpa using h4
   rw [hall, if_neg this]; rfl
  ·conv => whnf
   refine .mk (by simp only [okI, Rw.rng] at *; omega) ?_
   conv => whnf
   have : l.getD i 0 = 0 := by simpa using h4
   rw [if_pos this] at hall
   refine ⟨i + 1, ⟨by omega, hall⟩, by omega, ⟨⟨_, rfl, rfl⟩, trivial⟩, ?_, rfl⟩
   repeat' (first | exact trivial | exact ⟨_, rfl, rfl⟩ | constructor)
 ·conv => whnf
  refine EndZ.int ?_
  have hi' : l.length ≤ i := by simpa using h3
  rw [hall, List.drop_eq_nil_of_le hi']; rfl
def incE : List Int → Bool
 | a :: b :: r => decide (a < b) && incE (b :: r)
 | _ => true
def setE (l : List Int) (n : Int) : Int := bif l.any (fun i => outE i n) then 5 else bif incE l then 0 else 1
theorem S.protocol_set (l : List Int) (n : Int) (f : Bool) (hl : l.length < 2^40) : SpecZ Tryz.prog F.protocol_set [.row 0 f (.ints l), .int n] (.int (setE l n)) := by
 refine SpecZ.of Bd.protocol_set (by simp) rfl rfl ?_
 conv => whnf
 refine LoopZ.same [0, 1, 8, 9] (fun i : Nat => [(10, .int i)]) (fun i => i ≤ l.length ∧ (l.take i).any (fun i => outE i n) = false) (fun i => l.length - i) 0 rfl (by decide) rfl (fun _ => rfl) ⟨by omega, by simp⟩ ⟨⟨_, rfl, rfl⟩, trivial⟩ ?_
 conv => whnf
 refine ⟨rfl, ?_⟩
 rintro i ⟨hi, hall⟩
 conv => whnf
 refine ⟨fun h3 => ?_, fun h3 => ?_⟩
 ·have hi' : i < l.length := by simpa using h3
  conv => whnf
  repeat (refine VC.mk (by first | exact fun h => ⟨h, h⟩ | (intro h; rw [h]; rfl) | (simp only [okI, Rw.rng] at *; omega)) ?_; conv => whnf)
  refine ⟨fun h4 => ?_, fun h4 => ?_⟩
  ·conv => whnf
   refine EndZ.int ?_
   rw [setE, any_of_get (d := 0) hi' h4]; rfl
  ·conv => whnf
   refine .mk (by simp only [okI, Rw.rng] at *; omega) ?_
   conv => whnf
   refine ⟨i + 1, ⟨by omega, ?_⟩, by omega, ⟨⟨_, rfl, rfl⟩, trivial⟩, ?_, rfl⟩
   ·rw [any_take (d := 0) hi' hall]; exact h4
   ·repeat' (first | exact trivial | exact ⟨_, rfl, rfl⟩ | constructor)
 ·have hi' : l.length ≤ i := by simpa using h3
  rw [List.take_of_length_le hi'] at hall
  conv => whnf
  refine LoopZ.same [0] (fun i : Nat => [(7, .int (i + 1))]) (fun i => (i < l.length ∨ i = 0) ∧ incE l = incE (l.drop i)) (fun i => l.length - i) 0 rfl (by decide) rfl (fun _ => rfl) ⟨by omega, by simp⟩ ⟨⟨_, rfl, rfl⟩, trivial⟩ ?_
  conv => whnf
  refine ⟨rfl, ?_⟩
  rintro i ⟨hi, hinc⟩
  conv => whnf
  refine ⟨fun h5 => ?_, fun h5 => ?_⟩
  ·have hi1 : i + 1 < l.length := by have := of_decide_eq_true h5; omega
   rw [drop_getD 0 (show i < l.length by omega), drop_getD 0 hi1] at hinc
   simp only [incE] at hinc
   rw [← drop_getD 0 hi1] at hinc
   conv => whnf
   repeat (refine VC.mk (by simp only [okI, Rw.rng] at *; omega) ?_; conv => whnf)
   refine ⟨fun h6 => ?_, fun h6 => ?_⟩
   ·conv => whnf
    refine EndZ.int ?_
    have e1 : ((i : Int) + 1).toNat = i + 1 := by omega
    have e2 : ((i : Int) + 1 - 1).toNat = i := by omega
    rw [e1, e2] at h6
    have h6' : l.getD (i + 1) 0 ≤ l.getD i 0 := of_decide_eq_true h6
    rw [setE, hall, hinc, decide_eq_false (by omega)]; rfl
   ·conv => whnf
    refine .mk (by simp only [okI, Rw.rng] at *; omega) ?_
    conv => whnf
    have e1 : ((i : Int) + 1).toNat = i + 1 := by omega
    have e2 : ((i : Int) + 1 - 1).toNat = i := by omega
    rw [e1, e2] at h6
    have h6' : ¬ l.getD (i + 1) 0 ≤ l.getD i 0 := of_decide_eq_false h6
    rw [decide_eq_true (by omega), Bool.true_and] at hinc
    refine ⟨i + 1, ⟨by omega, hinc⟩, by omega, ⟨⟨_, rfl, rfl⟩, trivial⟩, ?_, rfl⟩
    repeat' (first | exact trivial | exact ⟨_, rfl, rfl⟩ | constructor)
  ·conv => whnf
   refine EndZ.int ?_
   have h5' : ¬ ((i : Int) + 1 < l.length) := of_decide_eq_false h5
   have : incE l = true := by
    rw [hinc]
    rcases hd : l.drop i with _ | ⟨a, _ | ⟨b, r⟩⟩
    ·rfl
    ·rfl
    ·have := congrArg List.length hd
     simp only [List.length_drop, List.length_cons] at this
     omega
   rw [setE, hall, this]; rfl
def facE (n : Int) : Bool := decide (n ≥ -100) && decide (n ≤ 100)
theorem S.protocol_factor (n : Int) : SpecZ Tryz.prog F.protocol_factor [.int n] (.bool (facE n)) := by
 refine SpecZ.of Bd.protocol_factor (by simp) rfl rfl ?_
 conv => whnf
 repeat (refine VC.mk (by exact fun h => h) ?_; conv => whnf)
 exact EndZ.bool rfl
def bndE (l : Lin) : Bool := facE l.c && facE l.n && facE l.t && facE l.f
theorem S.protocol_bounded (l : Lin) : SpecZ Tryz.prog F.protocol_bounded [.dat (.lin l)] (.bool (bndE l)) := by
 refine SpecZ.of Bd.protocol_bounded (by simp) rfl rfl ?_
 conv => whnf
 refine CallZ.pure (S.protocol_factor l.c) rfl ?_
 conv => whnf
 repeat (refine VC.mk (by exact fun h => h) ?_; conv => whnf)
 refine CallZ.pureG (fun _ => S.protocol_factor l.n) rfl ?_
 conv => whnf
 repeat (refine VC.mk (by exact fun h => h) ?_; conv => whnf)
 refine CallZ.pureG (fun _ => S.protocol_factor l.t) rfl ?_
 conv => whnf
 repeat (refine VC.mk (by exact fun h => h) ?_; conv => whnf)
 refine CallZ.pureG (fun _ => S.protocol_factor l.f) rfl ?_
 conv => whnf
 refine .mk (by exact fun h => h) ?_
 conv => whnf
 exact EndZ.bool rfl
def valueE (p : Prot) (v : Int) : Int := whenE (decide (v < -1) || decide (v ≥ p.values.length)) 5
theorem S.protocol_value (p : Prot) (v : Int) : SpecZ Tryz.prog F.protocol_value [.dat (.prot p), .int v] (.int (valueE p v)) := by
 refine SpecZ.of Bd.protocol_value (by simp) rfl rfl ?_
 conv => whnf
 repeat (refine VC.mk (by first | exact fun h => h | exact fun h => ⟨h, h⟩ | (intro h; rw [h]; rfl)) ?_; conv => whnf)
 refine CallZ.pure (S.protocol_when _ 5) rfl ?_
 conv => whnf
 exact EndZ.int rfl
theorem nez {a : Int} (h : (a != 0) = true) : a ≠ 0 := by simpa using h
theorem eqz {a : Int} (h : (a != 0) = false) : a = 0 := by simpa using h
def fitsE (k t : Int) : Bool := bif k == 1 || k == 2 || k == 3 then t == 1 else bif k == 4 || k == 5 then !(t == 1) else false
theorem S.protocol_fits (k t : Int) : SpecZ Tryz.prog F.protocol_fits [.int k, .int t] (.bool (fitsE k t)) := by
 refine SpecZ.of Bd.protocol_fits (by simp) rfl rfl ?_
 conv => whnf
 refine ⟨fun h1 => ?_, fun h1 => ?_⟩
 ·conv => whnf
  refine Fork.mk (fun _ => ?_) (fun q => absurd (q.symm.trans (h1)) Bool.false_ne_true)
  conv => whnf
  exact EndZ.bool (by simp [fitsE, h1])
 ·conv => whnf
  refine ⟨fun h2 => ?_, fun h2 => ?_⟩
  ·conv => whnf
   refine Fork.mk (fun _ => ?_) (fun q => absurd (q.symm.trans (h2)) Bool.false_ne_true)
   conv => whnf
   exact EndZ.bool (by simp [fitsE, h1, h2])
  ·conv => whnf
   refine ⟨fun h3 => ?_, fun h3 => ?_⟩
   ·conv => whnf
    exact EndZ.bool (by simp [fitsE, h1, h2, h3])
   ·conv => whnf
    refine ⟨fun h4 => ?_, fun h4 => ?_⟩
    ·conv => whnf
     refine Fork.mk (fun _ => ?_) (fun q => absurd (q.symm.trans (h4)) Bool.false_ne_true)
     conv => whnf
     exact EndZ.bool (by simp [fitsE, h1, h2, h3, h4, bne])
    ·conv => whnf
     refine ⟨fun h5 => ?_, fun h5 => ?_⟩
     ·conv => whnf
      exact EndZ.bool (by simp [fitsE, h1, h2, h3, h4, h5, bne])
     ·conv => whnf
      exact EndZ.bool (by simp [fitsE, h1, h2, h3, h4, h5])
def rangeE : List Int → Int → Int
 | [], _ => 0
 | x :: r, n => if indexE x n = 0 then rangeE r n else indexE x n
def respE (l : List Int) (n : Int) : Int := bif (l.length : Int) != n then 1 else rangeE l n
theorem S.protocol_responses (l : List Int) (n : Int) (f : Bool) (hl : l.length < 2^40) : SpecZ Tryz.prog F.protocol_responses [.row 0 f (.ints l), .int n] (.int (respE l n)) := by
 refine SpecZ.of Bd.protocol_responses (by simp) rfl rfl ?_
 conv => whnf
 refine ⟨fun h => ?_, fun h => ?_⟩
 ·conv => whnf
  exact EndZ.int (by rw [respE, h]; rfl)
 ·conv => whnf
  refine LoopZ.same [0, 1, 12, 13] (fun i : Nat => [(14, .int i)]) (fun i => i ≤ l.length ∧ rangeE l n = rangeE (l.drop i) n) (fun i => l.length - i) 0 rfl (by decide) rfl (fun _ => rfl) ⟨by omega, by simp⟩ ⟨⟨_, rfl, rfl⟩, trivial⟩ ?_
  conv => whnf
  refine ⟨rfl, ?_⟩
  rintro i ⟨hi, hall⟩
  conv => whnf
  refine ⟨fun h3 => ?_, fun h3 => ?_⟩
  ·have hi' : i < l.length := by simpa using h3
   rw [drop_getD 0 hi'] at hall
   simp only [rangeE] at hall
   conv => whnf
   refine .mk (by simp only [okI, Rw.rng] at *; omega) ?_
   conv => whnf
   refine CallZ.pure (S.protocol_index (l.getD i 0) n) rfl ?_
   conv => whnf
   refine ⟨fun h4 => ?_, fun h4 => ?_⟩
   ·conv => whnf
    refine EndZ.int ?_
    have : indexE (l.getD i 0) n ≠ 0 := by simpa using h4
    rw [respE, h, cond_false, hall, if_neg this]
   ·conv => whnf
    refine .mk (by simp only [okI, Rw.rng] at *; omega) ?_
    conv => whnf
    have : indexE (l.getD i 0) n = 0 := by simpa using h4
    rw [if_pos this] at hall
    refine ⟨i + 1, ⟨by omega, hall⟩, by omega, ⟨⟨_, rfl, rfl⟩, trivial⟩, ?_, rfl⟩
    repeat' (first | exact trivial | exact ⟨_, rfl, rfl⟩ | constructor)
  ·conv => whnf
   refine EndZ.int ?_
   have hi' : l.length ≤ i := by simpa using h3
   rw [respE, h, cond_false, hall, List.drop_eq_nil_of_le hi']; rfl
def guardE (p : Prot) (g : Thr) : Int := firstE [indexE g.message p.messages.length, whenE (decide (g.coef < 1) || decide (g.coef > 100)) 1, whenE (!(bndE g.bound)) 4]
def guardsL (p : Prot) : List Thr → Int
 | [] => 0
 | g :: r => if guardE p g = 0 then guardsL p r else guardE p g
def guardsE (p : Prot) (l : List Thr) : Int := if guardsL p l = 0 then whenE (decide ((l.length : Int) > 2)) 4 else guardsL p l
theorem S.protocol_guards (p : Prot) (l : List Thr) (f : Bool) (hl : l.length < 2^40) : SpecZ Tryz.prog F.protocol_guards [.dat (.prot p), .row 7 f (.thrs l)] (.int (guardsE p l)) := by
 refine SpecZ.of Bd.protocol_guards (by simp) rfl rfl ?_
 conv => whnf
 refine LoopZ.same [1, 2, 8, 9] (fun i : Nat => [(10, .int i)]) (fun i => i ≤ l.length ∧ guardsL p l = guardsL p (l.drop i)) (fun i => l.length - i) 0 rfl (by decide) rfl (fun _ => rfl) ⟨by omega, by simp⟩ ⟨⟨_, rfl, rfl⟩, trivial⟩ ?_
 conv => whnf
 refine ⟨rfl, ?_⟩
 rintro i ⟨hi, hall⟩
 conv => whnf
 refine ⟨fun h3 => ?_, fun h3 => ?_⟩
 ·have hi' : i < l.length := by simpa using h3
  rw [drop_getD default hi'] at hall
  simp only [guardsL] at hall
  conv => whnf
  refine .mk (by simp only [okI, Rw.rng] at *; omega) ?_
  conv => whnf
  refine CallZ.pure (S.protocol_index (l.getD i default).message p.messages.length) rfl ?_
  conv => whnf
  repeat (refine VC.mk (by first | exact fun h => h | (intro h; rw [h]; rfl)) ?_; conv => whnf)
  refine CallZ.pure (S.protocol_when (decide ((l.getD i default).coef < 1) || decide ((l.getD i default).coef > 100)) 1) rfl ?_
  conv => whnf
  refine CallZ.pure (S.protocol_bounded (l.getD i default).bound) rfl ?_
  conv => whnf
  refine CallZ.pure (S.protocol_when (!(bndE (l.getD i default).bound)) 4) rfl ?_
  conv => whnf
  refine CallZ.pure (S.protocol_first [indexE (l.getD i default).message p.messages.length, whenE (decide ((l.getD i default).coef < 1) || decide ((l.getD i default).coef > 100)) 1, whenE (!(bndE (l.getD i default).bound)) 4] true (show 3 < 2^40 by decide)) rfl ?_
  conv => whnf
  refine ⟨fun h4 => ?_, fun h4 => ?_⟩
  ·conv => whnf
   refine EndZ.int ?_
   have h4' : guardE p (l.getD i default) ≠ 0 := nez h4
   rw [if_neg h4'] at hall
   rw [guardsE, hall, if_neg h4']; rfl
  ·conv => whnf
   refine .mk (by simp only [okI, Rw.rng] at *; omega) ?_
   conv => whnf
   have h4' : guardE p (l.getD i default) = 0 := eqz h4
   rw [if_pos h4'] at hall
   refine ⟨i + 1, ⟨by omega, hall⟩, by omega, ⟨⟨_, rfl, rfl⟩, trivial⟩, ?_, rfl⟩
   repeat' (first | exact trivial | exact ⟨_, rfl, rfl⟩ | constructor)
 ·have hi' : l.length ≤ i := by simpa using h3
  rw [List.drop_eq_nil_of_le hi'] at hall
  conv => whnf
  refine CallZ.pure (S.protocol_when (decide ((l.length : Int) > 2)) 4) rfl ?_
  conv => whnf
  exact EndZ.int (by rw [guardsE, hall]; rfl)
structure SmallR (r : Rule) : Prop where
 response : r.response.length < 2^30
 guards : r.guards.length < 2^30
 ex : r.ex.length < 2^30
 all : r.all.length < 2^30
 send : r.send.length < 2^30
 left : r.left.length < 2^30
 right : r.right.length < 2^30
 parent : r.parent.length < 2^30
def chkE (r : Rule) : Bool :=
 decide ((r.response.length : Int) + r.guards.length + r.ex.length + r.all.length + r.send.length + r.left.length + r.right.length + r.parent.length > 0) || r.pfrom != 0 || r.pto != 0 || r.pos != 0 || r.direction != 0 || r.read != -1 || r.write != -1
def surplusE (r : Rule) (t : Int) : Bool :=
 bif r.kind == 1 then chkE { r with guards := [], ex := [], all := [], send := [], read := -1, write := -1 } else
 bif r.kind == 2 then (bif decide ((r.response.length : Int) > 0) then true else chkE { r with pfrom := 0, pto := 0, response := [], read := -1, write := -1 }) else
 bif r.kind == 3 then chkE { r with response := [], read := -1, write := -1 } else
 bif r.kind == 4 then (bif t == 4 then chkE { r with pos := 0, left := [], right := [], parent := [] } else chkE { r with pos := 0, left := [], right := [] }) else
 bif r.kind == 5 then chkE { r with pfrom := 0, pto := 0, direction := 0 } else chkE r
theorem S.protocol_surplus (r : Rule) (t : Int) (hs : SmallR r) : SpecZ Tryz.prog F.protocol_surplus [.dat (.rule r), .int t] (.bool (surplusE r t)) := by
 obtain ⟨g1, g2, g3, g4, g5, g6, g7, g8⟩ := hs
 refine SpecZ.of Bd.protocol_surplus (by simp) rfl rfl ?_
 conv => whnf
 refine ⟨fun h1 => ?_, fun h1 => ?_⟩
 ·conv => whnf
  repeat (refine VC.mk (by first | exact fun h => h | (intro h; rw [h]; rfl) | (simp only [okI, Rw.rng] at *; omega)) ?_; conv => whnf)
  exact EndZ.bool (by simp [surplusE, chkE, h1])
 ·conv => whnf
  refine ⟨fun h2 => ?_, fun h2 => ?_⟩
  ·conv => whnf
   refine ⟨fun h6 => ?_, fun h6 => ?_⟩
   ·conv => whnf
    exact EndZ.bool (by rw [surplusE, h1, h2, show decide ((r.response.length : Int) > 0) = true from h6]; rfl)
   ·conv => whnf
    repeat (refine VC.mk (by first | exact fun h => h | (intro h; rw [h]; rfl) | (simp only [okI, Rw.rng] at *; omega)) ?_; conv => whnf)
    exact EndZ.bool (by rw [surplusE, h1, h2, show decide ((r.response.length : Int) > 0) = false from h6]; simp [chkE])
  ·conv => whnf
   refine ⟨fun h3 => ?_, fun h3 => ?_⟩
   ·conv => whnf
    repeat (refine VC.mk (by first | exact fun h => h | (intro h; rw [h]; rfl) | (simp only [okI, Rw.rng] at *; omega)) ?_; conv => whnf)
    exact EndZ.bool (by simp [surplusE, chkE, h1, h2, h3])
   ·conv => whnf
    refine ⟨fun h4 => ?_, fun h4 => ?_⟩
    ·conv => whnf
     refine ⟨fun h7 => ?_, fun h7 => ?_⟩
     ·conv => whnf
      repeat (refine VC.mk (by first | exact fun h => h | (intro h; rw [h]; rfl) | (simp only [okI, Rw.rng] at *; omega)) ?_; conv => whnf)
      exact EndZ.bool (by simp [surplusE, chkE, h1, h2, h3, h4, h7])
     ·conv => whnf
      repeat (refine VC.mk (by first | exact fun h => h | (intro h; rw [h]; rfl) | (simp only [okI, Rw.rng] at *; omega)) ?_; conv => whnf)
      exact EndZ.bool (by simp [surplusE, chkE, h1, h2, h3, h4, h7])
    ·conv => whnf
     refine ⟨fun h5 => ?_, fun h5 => ?_⟩
     ·conv => whnf
      repeat (refine VC.mk (by first | exact fun h => h | (intro h; rw [h]; rfl) | (simp only [okI, Rw.rng] at *; omega)) ?_; conv => whnf)
      exact EndZ.bool (by simp [surplusE, chkE, h1, h2, h3, h4, h5])
     ·conv => whnf
      repeat (refine VC.mk (by first | exact fun h => h | (intro h; rw [h]; rfl) | (simp only [okI, Rw.rng] at *; omega)) ?_; conv => whnf)
      exact EndZ.bool (by simp [surplusE, chkE, h1, h2, h3, h4, h5])
def sameH (h : Hz) : Hz → Prop
 | [] => True
 | (i, o) :: r => h.get i = o ∧ sameH h r
theorem sameH_get {h : Hz} : ∀ {h0 : Hz}, sameH h h0 → ∀ {i : Nat} {o : OV}, h0.get i = some o → h.get i = some o := by
 intro h0
 induction h0 with
 | nil => intro _ i o e; cases e
 | cons p r ih =>
  obtain ⟨j, u⟩ := p
  intro hs i o e
  simp only [Hz.get] at e
  cases hb : Nat.beq j i with
  | true => rw [hb] at e; simp only [cond_true] at e; rw [← Nat.eq_of_beq_eq_true hb, hs.1, e]
  | false => rw [hb] at e; exact ih hs.2 e
def freH : Hz → Bool
 | [] => true
 | (_, some o) :: r => o.fre && freH r
 | (_, none) :: r => freH r
theorem freH_get : ∀ {h0 : Hz}, freH h0 = true → ∀ {i : Nat} {o : OV}, h0.get i = some o → o.fre = true := by
 intro h0
 induction h0 with
 | nil => intro _ i o e; cases e
 | cons p r ih =>
  obtain ⟨j, u⟩ := p
  intro hs i o e
  simp only [Hz.get] at e
  cases hb : Nat.beq j i with
  | true =>
   rw [hb] at e; simp only [cond_true] at e; subst e
   simp only [freH, Bool.and_eq_true] at hs; exact hs.1
  | false =>
   rw [hb] at e
   refine ih ?_ e
   cases u with
   | none => exact hs
   | some o => simp only [freH, Bool.and_eq_true] at hs; exact hs.2
theorem OV.fre_free {o : OV} (h : o.fre = true) : T.idsL (fun _ => False) o.toOb.l := by
 cases o with
 | row ty k r x => exact idsL_append.2 ⟨r.ids, freeL_ids (V.freeL_toL x h)⟩
 | box ty k w => exact ⟨free_ids (V.free_toT w h), trivial⟩
 | map ty es => cases h
theorem EndI.same {nx : Nat} {h0 h : Hz} {n : Nat} {post : T → Hp → Prop} {v : V} (hf : v.free = true) (hs : sameH h h0) (hg : goodH nx h0 = true) (hfr : freH h0 = true) (hp : post v.toT h0.toHp) : EndI h0 n post v h := by
 have hG := goodH_ok hg
 have get : ∀ i ob, h0.toHp i = some ob → ∃ o, h0.get i = some o ∧ ob = o.toOb := fun i ob e => by
  simp only [Hz.toHp, Option.map_eq_some_iff] at e
  obtain ⟨o, e1, e2⟩ := e
  exact ⟨o, e1, e2.symm⟩
 have hfree := V.free_toT v hf
 refine ⟨fun _ => False, id, v.toT, h0.toHp, hp, ?_, fun i ob hi => ?_, fun i j _ _ e => e, T.ids_weaken (fun _ h => h.elim) _ (free_ids hfree), fun i ob hi => ?_, fun i _ _ => rfl⟩
 ·rw [ren_id]; exact sub_refl _
 ·obtain ⟨o, e1, rfl⟩ := get i ob hi
  refine ⟨o.toOb, toHp_some (sameH_get hs e1), fun h => h, rfl, rfl, ?_, kdB_of (hG i _ hi).2.2⟩
  rw [renL_of _ (OV.fre_free (freH_get hfr e1))]; exact subL_refl _
 ·obtain ⟨o, e1, rfl⟩ := get i ob hi
  exact ⟨.inl (by rw [hi]; rfl), T.idsL_weaken (fun _ h => h.elim) _ (OV.fre_free (freH_get hfr e1))⟩
abbrev hRP (p : Prot) (r : Rule) : Hz := [(7, some (.box Y.api_Rule 19 (.dat (.rule r)))), (0, some (.box Y.api_Protocol 11 (.dat (.prot p))))]
theorem S.ruleError_c1 (p : Prot) (r x : Rule) (n : Nat) : ACalls Tryz.prog F.protocol_ruleError_c1 (V.toL [.dat (.rule x), .ptr 7 0 0]) (hRP p r).toHp n (fun t hp => t = .bool (x.name == r.name) ∧ hp = (hRP p r).toHp) := by
 refine SpecI.of (nx := 8) Bd.protocol_ruleError_c1 (by simp) ⟨_, _, rfl, rfl⟩ rfl rfl ?_
 conv => whnf
 exact EndI.same (nx := 8) rfl ⟨rfl, rfl, trivial⟩ rfl rfl ⟨rfl, rfl⟩
def findR (s : Str) : List Rule → Nat → Int
 | [], _ => -1
 | x :: r, i => bif x.name == s then (i : Int) else findR s r (i + 1)
theorem S.IndexRule (p : Prot) (r : Rule) (l : List Rule) (f : Bool) (hl : l.length < 2^30) (n : Nat) : ACalls Tryz.prog F.slices_IndexFunc_Lapi_Rule_api_Rule (V.toL [.row 19 f (.rules l), .fn F.protocol_ruleError_c1 [.ptr 7 0 0]]) (hRP p r).toHp n (fun t hp => t = .int (findR r.name l 0) ∧ hp = (hRP p r).toHp) := by
 refine SpecI.of (nx := 8) Bd.slices_IndexFunc_Lapi_Rule_api_Rule (by simp) ⟨_, _, rfl, rfl⟩ rfl rfl ?_
 conv => whnf
 refine LoopZ.same [0, 1, 6, 7] (fun i : Nat => [(8, .int i)]) (fun i => i ≤ l.length ∧ findR r.name l 0 = findR r.name (l.drop i) i) (fun i => l.length - i) 0 rfl (by decide) rfl (fun _ => rfl) ⟨by omega, by simp⟩ ⟨⟨_, rfl, rfl⟩, trivial⟩ ?_
 conv => whnf
 refine ⟨rfl, ?_⟩
 rintro i ⟨hi, hall⟩
 conv => whnf
 refine ⟨fun h3 => ?_, fun h3 => ?_⟩
 ·have hi' : i < l.length := by simpa using h3
  rw [drop_getD default hi'] at hall
  simp only [findR] at hall
  conv => whnf
  refine .mk (by simp only [okI, Rw.rng] at *; omega) ?_
  conv => whnf
  refine CallZ.heap (S.ruleError_c1 p r (l.getD i default) _) ?_
  rintro t hp ⟨rfl, rfl⟩
  refine ⟨.bool _, hRP p r, rfl, rfl, ?_⟩
  conv => whnf
  refine ⟨fun h4 => ?_, fun h4 => ?_⟩
  ·conv => whnf
   rw [h4] at hall
   exact EndI.same (nx := 8) rfl ⟨rfl, rfl, trivial⟩ rfl rfl ⟨by rw [hall]; rfl, rfl⟩
  ·conv => whnf
   refine .mk (by simp only [okI, Rw.rng] at *; omega) ?_
   conv => whnf
   rw [h4] at hall
   refine ⟨i + 1, ⟨by omega, hall⟩, by omega, ⟨⟨_, rfl, rfl⟩, trivial⟩, ?_, rfl⟩
   repeat' (first | exact trivial | exact ⟨_, rfl, rfl⟩ | constructor)
 ·conv => whnf
  have hi' : l.length ≤ i := by simpa using h3
  rw [List.drop_eq_nil_of_le hi'] at hall
  exact EndI.same (nx := 8) rfl ⟨rfl, rfl, trivial⟩ rfl rfl ⟨by rw [hall]; rfl, rfl⟩
theorem findR_ge {s : Str} {l : List Rule} {i : Nat} : decide (0 ≤ findR s l i) = l.any fun x => x.name == s := by
 have : ∀ {l : List Rule} {i : Nat}, 0 ≤ findR s l i ↔ (l.any fun x => x.name == s) = true := by
  intro l
  induction l with
  | nil => intro i; simp [findR]
  | cons x r ih =>
   intro i
   rw [List.any_cons, Bool.or_eq_true, ← ih (i := i + 1)]
   show (0 : Int) ≤ (bif x.name == s then (i : Int) else findR s r (i + 1)) ↔ _
   generalize (x.name == s) = b
   cases b <;> simp
 rw [Bool.eq_iff_iff, decide_eq_true_eq]; exact this
theorem S.ContainsRule (p : Prot) (r : Rule) (l : List Rule) (f : Bool) (hl : l.length < 2^30) (n : Nat) : ACalls Tryz.prog F.slices_ContainsFunc_Lapi_Rule_api_Rule (V.toL [.row 19 f (.rules l), .fn F.protocol_ruleError_c1 [.ptr 7 0 0]]) (hRP p r).toHp n (fun t hp => t = .bool (l.any fun x => x.name == r.name) ∧ hp = (hRP p r).toHp) := by
 refine SpecI.of (nx := 8) Bd.slices_ContainsFunc_Lapi_Rule_api_Rule (by simp) ⟨_, _, rfl, rfl⟩ rfl rfl ?_
 conv => whnf
 refine CallZ.heap (S.IndexRule p r l f hl _) ?_
 rintro t hp ⟨rfl, rfl⟩
 refine ⟨.int _, hRP p r, rfl, rfl, ?_⟩
 conv => whnf
 exact EndI.same (nx := 8) rfl ⟨rfl, rfl, trivial⟩ rfl rfl ⟨by rw [← findR_ge (i := 0)]; rfl, rfl⟩
theorem CallZ.mkRow {P : Program} {f : FuncId} {args : List V} {h : Hz} {n ty k : Nat} {r : Rw} {K : V → Hz → Prop} (H : AFn P f (V.toL args) (fun n => .own n) (some ⟨ty, k, r.toL⟩)) (hK : K (.own n) ((n, some (.row ty k r [])) :: h)) : CallZ P false none f args h n K :=
 CallZ.heap (AFn.frame H _ _) (by rintro t hp ⟨rfl, rfl⟩; exact ⟨.own n, _, rfl, by rw [toHp_put]; simp [updO, OV.toOb, V.toL], hK⟩)
theorem S.Concat (a b c : List Str) (n : Nat) (h0 : 0 < a.length) (ha : a.length < 2^20) (hb : b.length < 2^20) (hc : c.length < 2^20) :
  ACalls Tryz.prog F.slices_Concat_Lstring_string (V.toL [.rowv 0 false [.row 0 false (.strs a), .row 0 false (.strs b), .row 0 false (.strs c)]]) no n (fun t hp => t = .own n ∧ hp = Hz.toHp [(n, some (.row 9 0 (.strs (a ++ b ++ c)) []))]) := by
 refine SpecI.of (nx := 0) (h0 := []) Bd.slices_Concat_Lstring_string (by simp) ⟨_, _, rfl, rfl⟩ rfl rfl ?_
 conv => whnf
 refine LoopZ.times 4 rfl ?_
 conv => whnf
 refine Fork.mk (fun _ => ?_) (fun q => absurd (q.symm.trans (rfl)) Bool.false_ne_true)
 conv => whnf
 repeat (refine VC.mk (by first | (omega) | (simp only [okI, Rw.rng] at *; omega)) ?_; conv => whnf)
 refine Fork.mk (fun q => absurd (q.symm.trans (decide_eq_false (by omega))).symm Bool.false_ne_true) (fun _ => ?_)
 conv => whnf
 refine .mk (by simp only [okI, Rw.rng] at *; omega) ?_
 conv => whnf
 refine Fork.mk (fun _ => ?_) (fun q => absurd (q.symm.trans (rfl)) Bool.false_ne_true)
 conv => whnf
 repeat (refine VC.mk (by first | (omega) | (simp only [okI, Rw.rng] at *; omega)) ?_; conv => whnf)
 refine Fork.mk (fun q => absurd (q.symm.trans (decide_eq_false (by omega))).symm Bool.false_ne_true) (fun _ => ?_)
 conv => whnf
 refine .mk (by simp only [okI, Rw.rng] at *; omega) ?_
 conv => whnf
 refine Fork.mk (fun _ => ?_) (fun q => absurd (q.symm.trans (rfl)) Bool.false_ne_true)
 conv => whnf
 repeat (refine VC.mk (by first | (omega) | (simp only [okI, Rw.rng] at *; omega)) ?_; conv => whnf)
 refine Fork.mk (fun q => absurd (q.symm.trans (decide_eq_false (by omega))).symm Bool.false_ne_true) (fun _ => ?_)
 conv => whnf
 refine .mk (by simp only [okI, Rw.rng] at *; omega) ?_
 conv => whnf
 refine Fork.mk (fun q => absurd (q.symm.trans (rfl)).symm Bool.false_ne_true) (fun _ => ?_)
 conv => whnf
 have e : (0 + (a.length : Int) + b.length + c.length) = ((a.length + b.length + c.length : Nat) : Int) := by omega
 rw [e]
 refine CallZ.mkRow (r := .strs []) (S.Grow (a.length + b.length + c.length) (by omega) (by omega)) ?_
 conv => whnf
 refine LoopZ.times 4 rfl ?_
 conv => whnf
 refine Fork.mk (fun _ => ?_) (fun q => absurd (q.symm.trans (rfl)) Bool.false_ne_true)
 conv => whnf
 repeat (refine VC.mk (by first | (omega) | (simp only [capOk, lenRX, Rw.len, List.length_append, List.length_nil]; omega) | (simp only [okI, Rw.rng] at *; omega)) ?_; conv => whnf)
 refine Fork.mk (fun _ => ?_) (fun q => absurd (q.symm.trans (rfl)) Bool.false_ne_true)
 conv => whnf
 repeat (refine VC.mk (by first | (omega) | (simp only [capOk, lenRX, Rw.len, List.length_append, List.length_nil]; omega) | (simp only [okI, Rw.rng] at *; omega)) ?_; conv => whnf)
 refine Fork.mk (fun _ => ?_) (fun q => absurd (q.symm.trans (rfl)) Bool.false_ne_true)
 conv => whnf
 repeat (refine VC.mk (by first | (omega) | (simp only [capOk, lenRX, Rw.len, List.length_append, List.length_nil]; omega) | (simp only [okI, Rw.rng] at *; omega)) ?_; conv => whnf)
 refine Fork.mk (fun q => absurd (q.symm.trans (rfl)).symm Bool.false_ne_true) (fun _ => ?_)
 conv => whnf
 refine EndI.one (c := n) (o := .row 9 0 (.strs (a ++ b ++ c)) []) (t := .own n) rfl rfl rfl nofun (.inr rfl) rfl (.eq rfl) ⟨rfl, rfl⟩
theorem S.ConcatF (a b c : List Str) (h0 : 0 < a.length) (ha : a.length < 2^20) (hb : b.length < 2^20) (hc : c.length < 2^20) :
  AFn Tryz.prog F.slices_Concat_Lstring_string (V.toL [.rowv 0 false [.row 0 false (.strs a), .row 0 false (.strs b), .row 0 false (.strs c)]]) (fun n => .own n) (some ⟨9, 0, (Rw.strs (a ++ b ++ c)).toL⟩) := by
 refine ⟨rfl, fun _ => rfl, (fun ob h => by cases h; rw [freeL_iff]; intro t ht; obtain ⟨x, _, rfl⟩ := List.mem_map.1 ht; rfl), (fun ob h => by cases h; exact fun e => absurd e (by decide : (0 : Nat) ≠ mapK)), fun n => (S.Concat a b c n h0 ha hb hc).mono ?_⟩
 rintro t hp ⟨rfl, rfl⟩
 refine ⟨rfl, ?_⟩
 rw [toHp_put]; simp [updO, OV.toOb, V.toL]; rfl
theorem CallZ.lendRow {P : Program} {f : FuncId} {args : List V} {ts : List T} {h : Hz} {n ty k : Nat} {r : Rw} {K : V → Hz → Prop} (H : AFn P f ts (fun n => .own n) (some ⟨ty, k, r.toL⟩)) (hs : T.subL (fun _ => True) h.toHp ts (V.toL args)) (hh : T.hardL r.toL = true) (hK : K (.own n) ((n, some (.row ty k r [])) :: h)) : CallZ P false none f args h n K :=
 ⟨AFn.lend H hs rfl (fun _ e => by cases e; exact hh) ⟨.own n, _, rfl, by rw [toHp_put]; simp [updO, OV.toOb, V.toL], (fun e => by cases e), hK⟩⟩
theorem lendV {h : Hz} {j ty : Nat} {Z : Nat → Prop} {l : List V} (hz : Z j) (q : h.get j = some (.row ty 0 .nil l)) (hf : V.freeL l = true) : T.sub Z h.toHp (V.rowv 0 false l).toT (V.own j).toT := by
 show T.sub Z h.toHp (.sl 0 false (V.toL l)) (.own j)
 simp only [T.sub]
 exact ⟨trivial, hz, V.freeL_toL l hf, by decide, ty, by rw [toHp_some q]; rfl⟩
theorem strs_hard {l : List Str} : T.hardL (Rw.strs l).toL = true := by
 show T.hardL (l.map eS) = true
 induction l with
 | nil => rfl
 | cons s r ih => simp only [List.map_cons, T.hardL, ih]; rfl
theorem lendO {h : Hz} {j i ty : Nat} {Z : Nat → Prop} {l : List Str} (hz : Z j) (q : h.get j = some (.row ty 0 (.strs l) [])) (hi : i ≤ l.length) : T.sub Z h.toHp (V.row 0 false (.strs (l.take i))).toT (V.ovw j 0 i).toT := by
 show T.sub Z h.toHp (.sl 0 false ((l.take i).map eS)) (.ovw j 0 i)
 simp only [T.sub]
 refine ⟨trivial, hz, ?_, by decide, ty, l.map eS, ?_, by simpa using hi, by simp [List.map_take]⟩
 ·rw [freeL_iff]; intro t ht; obtain ⟨x, _, rfl⟩ := List.mem_map.1 ht; rfl
 ·rw [toHp_some q]; simp [OV.toOb, Rw.toL, V.toL]
def allNames (p : Prot) : List Str := p.states ++ p.messages ++ p.values
def nameBad (l : List Str) (i : Nat) : Bool := !(validName (l.getD i [])) || (l.take i).any fun x => l.getD i [] == x
def namesE (p : Prot) : Int := bif (List.range (allNames p).length).any (nameBad (allNames p)) then 2 else 0
theorem any_range {n : Nat} {f : Nat → Bool} : (List.range n).any f = true ↔ ∃ i, i < n ∧ f i = true := by
 simp [List.any_eq_true]
theorem S.protocol_names (p : Prot) (h0 : 0 < p.states.length) (h1 : p.states.length < 2^20) (h2 : p.messages.length < 2^20) (h3 : p.values.length < 2^20) : SpecZ Tryz.prog F.protocol_names [.dat (.prot p)] (.int (namesE p)) := by
 have hlen : (allNames p).length < 2^30 := by simp only [allNames, List.length_append]; omega
 refine SpecZ.of Bd.protocol_names (by simp) rfl rfl ?_
 conv => whnf
 refine CallZ.lendRow (r := .strs (allNames p)) (S.ConcatF p.states p.messages p.values h0 h1 h2 h3) (And.intro (lendV (ty := Y.Lstring) trivial rfl rfl) trivial) strs_hard ?_
 conv => whnf
 refine LoopZ.same [3, 14, 15] (fun i : Nat => [(16, .int i)]) (fun i => i ≤ (allNames p).length ∧ (List.range i).any (nameBad (allNames p)) = false) (fun i => (allNames p).length - i) 0 rfl (by decide) rfl (fun _ => rfl) ⟨Nat.zero_le _, rfl⟩ ⟨⟨_, rfl, rfl⟩, trivial⟩ ?_
 conv => whnf
 refine ⟨rfl, ?_⟩
 rintro i ⟨hi, hall⟩
 conv => whnf
 refine ⟨fun h4 => ?_, fun h4 => ?_⟩
 ·have hi' : i < (allNames p).length := by simpa using h4
  conv => whnf
  repeat (refine VC.mk (by simp only [okI, Rw.rng] at *; omega) ?_; conv => whnf)
  refine CallZ.pure (S.protocol_ValidName ((allNames p).getD i [])) rfl ?_
  conv => whnf
  repeat (refine VC.mk (by first | exact fun h => ⟨h, h⟩ | (intro h; (repeat' apply And.intro) <;> first | exact h | omega | (simp only [Rw.rngE]; omega) | (simp only [Rw.rng]; omega))) ?_; conv => whnf)
  refine CallZ.lendG (fun _ => S.slices_Contains_string ((allNames p).take i) ((allNames p).getD i []) false (by rw [List.length_take]; omega)) (fun _ => And.intro (lendO (ty := 9) trivial rfl (by omega)) (And.intro (sub_refl _) trivial)) rfl rfl ?_
  conv => whnf
  refine .mk (by intro h; rw [h]; rfl) ?_
  conv => whnf
  refine ⟨fun h5 => ?_, fun h5 => ?_⟩
  ·conv => whnf
   refine EndZ.int ?_
   rw [namesE, any_range.2 ⟨i, hi', h5⟩]; rfl
  ·conv => whnf
   refine .mk (by simp only [okI, Rw.rng] at *; omega) ?_
   conv => whnf
   refine ⟨i + 1, ⟨by omega, ?_⟩, by omega, ⟨⟨_, rfl, rfl⟩, trivial⟩, ?_, rfl⟩
   ·rw [List.range_succ, List.any_append, hall]
    simp only [List.any_cons, List.any_nil, Bool.or_false, Bool.false_or]; exact h5
   ·repeat' (first | exact trivial | exact ⟨_, rfl, rfl⟩ | constructor)
 ·have hi' : (allNames p).length ≤ i := by simpa using h4
  have e : i = (allNames p).length := Nat.le_antisymm hi hi'
  subst e
  conv => whnf
  exact EndZ.int (by rw [namesE, hall]; rfl)
theorem CallZ.heapE {P : Program} {f : FuncId} {args : List V} {h : Hz} {hp0 : Hp} {n : Nat} {K : V → Hz → Prop} {post : T → Hp → Prop} (S : ACalls P f (V.toL args) hp0 n post) (e : h.toHp = hp0) (hK : ∀ t hp, post t hp → ∃ v h', t = v.toT ∧ hp = Hz.toHp h' ∧ K v h') : CallZ P false none f args h n K := by
 subst e; exact CallZ.heap S hK
theorem toHp_shadow {i : Nat} {a b : Option OV} {r : Hz} : Hz.toHp ((i, a) :: (i, b) :: r) = Hz.toHp ((i, a) :: r) := funext fun j => by
 simp only [Hz.toHp, Hz.get]; cases Nat.beq i j <;> rfl
structure SmallP (p : Prot) : Prop where
 states : p.states.length < 2^20
 messages : p.messages.length < 2^20
 values : p.values.length < 2^20
 resilience : p.resilience.length < 2^30
 initial : p.initial.length < 2^30
 leader : p.leader.length < 2^30
 rules : p.rules.length < 2^30
 rule : ∀ i, SmallR (p.rules.getD i default)
 thrs : (p.rules.flatMap Rule.guards).length < 2^30
def badName (p : Prot) (i : Nat) : Bool := !(validName (p.rules.getD i default).name) || (p.rules.take i).any fun x => x.name == (p.rules.getD i default).name
def badKind (p : Prot) (i : Nat) : Bool := !(fitsE (p.rules.getD i default).kind p.topology) || surplusE (p.rules.getD i default) p.topology
def ends2 (p : Prot) (r : Rule) : Int := firstE [indexE r.fr p.states.length, indexE r.to p.states.length]
def misE (p : Prot) (r : Rule) : Bool := decide (r.pos < 0) || decide (r.pos > 2) || (r.pos != 0 && p.topology == 3)
def ruleErr (p : Prot) (i : Nat) : Int :=
 let r := p.rules.getD i default
 let n : Int := p.states.length
 bif badName p i then 2 else bif badKind p i then 6 else bif ends2 p r != 0 then ends2 p r else
 bif r.kind == 1 then firstE [guardsE p r.guards, setE r.ex n, setE r.all n, valueE p r.read, valueE p r.write, setE r.send p.messages.length] else
 bif r.kind == 2 then firstE [indexE r.pfrom n, indexE r.pto n, valueE p r.read, valueE p r.write] else
 bif r.kind == 3 then firstE [respE r.response n, valueE p r.read, valueE p r.write] else
 bif r.kind == 4 then firstE [setE r.left n, setE r.right n, setE r.parent n, whenE (misE p r) 1] else
 bif p.topology == 4 then firstE [indexE r.pfrom n, indexE r.pto n, whenE (decide (r.direction < 3) || decide (r.direction > 4)) 1]
 else firstE [indexE r.pfrom n, indexE r.pto n, whenE (decide (r.direction < 1) || decide (r.direction > 2)) 1]
theorem S.protocol_ruleError (p : Prot) (i : Nat) (hi : i < p.rules.length) (hp : SmallP p) : SpecZ Tryz.prog F.protocol_ruleError [.dat (.prot p), .int i] (.int (ruleErr p i)) := by
 have hr := hp.rule i
 have hp1 := hp.rules
 have hp2 := hp.states
 have hp3 := hp.messages
 refine SpecZ.of Bd.protocol_ruleError (by simp) rfl rfl ?_
 conv => whnf
 repeat (refine VC.mk (by first | (simp only [Rw.rngE]; omega) | (simp only [okI, Rw.rng] at *; omega)) ?_; conv => whnf)
 refine CallZ.heapE (S.ContainsRule p (p.rules.getD i default) (p.rules.take i) false (by rw [List.length_take]; omega) _) toHp_shadow ?_
 rintro t hp' ⟨rfl, rfl⟩
 refine ⟨.bool _, hRP p (p.rules.getD i default), rfl, rfl, ?_⟩
 conv => whnf
 refine CallZ.pure (S.protocol_ValidName (p.rules.getD i default).name) rfl ?_
 conv => whnf
 refine .mk (by intro h; rw [h]; rfl) ?_
 conv => whnf
 refine ⟨fun h1 => ?_, fun h1 => ?_⟩
 ·conv => whnf
  exact EndZ.int (by rw [ruleErr, show badName p i = true from h1]; rfl)
 ·conv => whnf
  refine CallZ.pure (S.protocol_fits (p.rules.getD i default).kind p.topology) rfl ?_
  conv => whnf
  repeat (refine VC.mk (by first | exact fun h => h | exact fun h => ⟨h, h⟩) ?_; conv => whnf)
  refine CallZ.pureG (fun _ => S.protocol_surplus (p.rules.getD i default) p.topology hr) rfl ?_
  conv => whnf
  refine .mk (by intro h; rw [h]; rfl) ?_
  conv => whnf
  refine ⟨fun h2 => ?_, fun h2 => ?_⟩
  ·conv => whnf
   exact EndZ.int (by rw [ruleErr, show badName p i = false from h1, show badKind p i = true from h2]; rfl)
  ·conv => whnf
   refine CallZ.pure (S.protocol_index (p.rules.getD i default).fr p.states.length) rfl ?_
   conv => whnf
   refine CallZ.pure (S.protocol_index (p.rules.getD i default).to p.states.length) rfl ?_
   conv => whnf
   refine CallZ.pure (S.protocol_first [indexE (p.rules.getD i default).fr p.states.length, indexE (p.rules.getD i default).to p.states.length] true (show 2 < 2^40 by decide)) rfl ?_
   conv => whnf
   refine ⟨fun h3 => ?_, fun h3 => ?_⟩
   ·conv => whnf
    exact EndZ.int (by rw [ruleErr, show badName p i = false from h1, show badKind p i = false from h2, show (ends2 p (p.rules.getD i default) != 0) = true from h3]; rfl)
   ·conv => whnf
    refine ⟨fun h4 => ?_, fun h4 => ?_⟩
    ·conv => whnf
     refine CallZ.pure (S.protocol_guards p (p.rules.getD i default).guards false (by have := hr.guards; omega)) rfl ?_
     conv => whnf
     refine CallZ.pure (S.protocol_set (p.rules.getD i default).ex p.states.length false (by have := hr.ex; omega)) rfl ?_
     conv => whnf
     refine CallZ.pure (S.protocol_set (p.rules.getD i default).all p.states.length false (by have := hr.all; omega)) rfl ?_
     conv => whnf
     refine CallZ.pure (S.protocol_value p (p.rules.getD i default).read) rfl ?_
     conv => whnf
     refine CallZ.pure (S.protocol_value p (p.rules.getD i default).write) rfl ?_
     conv => whnf
     refine CallZ.pure (S.protocol_set (p.rules.getD i default).send p.messages.length false (by have := hr.send; omega)) rfl ?_
     conv => whnf
     refine CallZ.pure (S.protocol_first [guardsE p (p.rules.getD i default).guards, setE (p.rules.getD i default).ex p.states.length, setE (p.rules.getD i default).all p.states.length, valueE p (p.rules.getD i default).read, valueE p (p.rules.getD i default).write, setE (p.rules.getD i default).send p.messages.length] true (show 6 < 2^40 by decide)) rfl ?_
     conv => whnf
     exact EndZ.int (by rw [ruleErr, show badName p i = false from h1, show badKind p i = false from h2, show (ends2 p (p.rules.getD i default) != 0) = false from h3, h4]; rfl)
    ·conv => whnf
     refine ⟨fun h5 => ?_, fun h5 => ?_⟩
     ·conv => whnf
      refine CallZ.pure (S.protocol_index (p.rules.getD i default).pfrom p.states.length) rfl ?_
      conv => whnf
      refine CallZ.pure (S.protocol_index (p.rules.getD i default).pto p.states.length) rfl ?_
      conv => whnf
      refine CallZ.pure (S.protocol_value p (p.rules.getD i default).read) rfl ?_
      conv => whnf
      refine CallZ.pure (S.protocol_value p (p.rules.getD i default).write) rfl ?_
      conv => whnf
      refine CallZ.pure (S.protocol_first [indexE (p.rules.getD i default).pfrom p.states.length, indexE (p.rules.getD i default).pto p.states.length, valueE p (p.rules.getD i default).read, valueE p (p.rules.getD i default).write] true (show 4 < 2^40 by decide)) rfl ?_
      conv => whnf
      exact EndZ.int (by rw [ruleErr, show badName p i = false from h1, show badKind p i = false from h2, show (ends2 p (p.rules.getD i default) != 0) = false from h3, h4, h5]; rfl)
     ·conv => whnf
      refine ⟨fun h6 => ?_, fun h6 => ?_⟩
      ·conv => whnf
       refine CallZ.pure (S.protocol_responses (p.rules.getD i default).response p.states.length false (by have := hr.response; omega)) rfl ?_
       conv => whnf
       refine CallZ.pure (S.protocol_value p (p.rules.getD i default).read) rfl ?_
       conv => whnf
       refine CallZ.pure (S.protocol_value p (p.rules.getD i default).write) rfl ?_
       conv => whnf
       refine CallZ.pure (S.protocol_first [respE (p.rules.getD i default).response p.states.length, valueE p (p.rules.getD i default).read, valueE p (p.rules.getD i default).write] true (show 3 < 2^40 by decide)) rfl ?_
       conv => whnf
       exact EndZ.int (by rw [ruleErr, show badName p i = false from h1, show badKind p i = false from h2, show (ends2 p (p.rules.getD i default) != 0) = false from h3, h4, h5, h6]; rfl)
      ·conv => whnf
       refine ⟨fun h7 => ?_, fun h7 => ?_⟩
       ·conv => whnf
        repeat (refine VC.mk (by first | exact fun h => h | (intro h; rw [h]; rfl) | (intro h; simp_all; done)) ?_; conv => whnf)
        refine CallZ.pure (S.protocol_set (p.rules.getD i default).left p.states.length false (by have := hr.left; omega)) rfl ?_
        conv => whnf
        refine CallZ.pure (S.protocol_set (p.rules.getD i default).right p.states.length false (by have := hr.right; omega)) rfl ?_
        conv => whnf
        refine CallZ.pure (S.protocol_set (p.rules.getD i default).parent p.states.length false (by have := hr.parent; omega)) rfl ?_
        conv => whnf
        refine CallZ.pure (S.protocol_when (misE p (p.rules.getD i default)) 1) rfl ?_
        conv => whnf
        refine CallZ.pure (S.protocol_first [setE (p.rules.getD i default).left p.states.length, setE (p.rules.getD i default).right p.states.length, setE (p.rules.getD i default).parent p.states.length, whenE (misE p (p.rules.getD i default)) 1] true (show 4 < 2^40 by decide)) rfl ?_
        conv => whnf
        exact EndZ.int (by rw [ruleErr, show badName p i = false from h1, show badKind p i = false from h2, show (ends2 p (p.rules.getD i default) != 0) = false from h3, h4, h5, h6, h7]; rfl)
       ·conv => whnf
        refine ⟨fun h8 => ?_, fun h8 => ?_⟩
        ·conv => whnf
         refine CallZ.pure (S.protocol_index (p.rules.getD i default).pfrom p.states.length) rfl ?_
         conv => whnf
         refine CallZ.pure (S.protocol_index (p.rules.getD i default).pto p.states.length) rfl ?_
         conv => whnf
         repeat (refine VC.mk (by first | exact fun h => h | exact fun h => ⟨h, h⟩ | (intro h; rw [h]; rfl)) ?_; conv => whnf)
         refine CallZ.pure (S.protocol_when (decide ((p.rules.getD i default).direction < 3) || decide ((p.rules.getD i default).direction > 4)) 1) rfl ?_
         conv => whnf
         refine CallZ.pure (S.protocol_first [indexE (p.rules.getD i default).pfrom p.states.length, indexE (p.rules.getD i default).pto p.states.length, whenE (decide ((p.rules.getD i default).direction < 3) || decide ((p.rules.getD i default).direction > 4)) 1] true (show 3 < 2^40 by decide)) rfl ?_
         conv => whnf
         exact EndZ.int (by rw [ruleErr, show badName p i = false from h1, show badKind p i = false from h2, show (ends2 p (p.rules.getD i default) != 0) = false from h3, h4, h5, h6, h7, h8]; rfl)
        ·conv => whnf
         refine CallZ.pure (S.protocol_index (p.rules.getD i default).pfrom p.states.length) rfl ?_
         conv => whnf
         refine CallZ.pure (S.protocol_index (p.rules.getD i default).pto p.states.length) rfl ?_
         conv => whnf
         repeat (refine VC.mk (by first | exact fun h => h | exact fun h => ⟨h, h⟩ | (intro h; rw [h]; rfl)) ?_; conv => whnf)
         refine CallZ.pure (S.protocol_when (decide ((p.rules.getD i default).direction < 1) || decide ((p.rules.getD i default).direction > 2)) 1) rfl ?_
         conv => whnf
         refine CallZ.pure (S.protocol_first [indexE (p.rules.getD i default).pfrom p.states.length, indexE (p.rules.getD i default).pto p.states.length, whenE (decide ((p.rules.getD i default).direction < 1) || decide ((p.rules.getD i default).direction > 2)) 1] true (show 3 < 2^40 by decide)) rfl ?_
         conv => whnf
         exact EndZ.int (by rw [ruleErr, show badName p i = false from h1, show badKind p i = false from h2, show (ends2 p (p.rules.getD i default) != 0) = false from h3, h4, h5, h6, h7, h8]; rfl)
def findT (g : Thr) : List Thr → Nat → Int
 | [], _ => -1
 | x :: r, i => bif g == x then (i : Int) else findT g r (i + 1)
theorem findT_ge {g : Thr} {l : List Thr} {i : Nat} : decide (0 ≤ findT g l i) = l.any fun x => g == x := by
 have : ∀ {l : List Thr} {i : Nat}, 0 ≤ findT g l i ↔ (l.any fun x => g == x) = true := by
  intro l
  induction l with
  | nil => intro i; simp [findT]
  | cons x r ih =>
   intro i
   rw [List.any_cons, Bool.or_eq_true, ← ih (i := i + 1)]
   show (0 : Int) ≤ (bif g == x then (i : Int) else findT g r (i + 1)) ↔ _
   generalize (g == x) = b
   cases b <;> simp
 rw [Bool.eq_iff_iff, decide_eq_true_eq]; exact this
theorem S.IndexThr (l : List Thr) (g : Thr) (f : Bool) (hl : l.length < 2^40) : SpecZ Tryz.prog F.slices_Index_Lapi_Threshold_api_Threshold [.row 7 f (.thrs l), .dat (.thr g)] (.int (findT g l 0)) := by
 refine SpecZ.of Bd.slices_Index_Lapi_Threshold_api_Threshold (by simp) rfl rfl ?_
 conv => whnf
 refine LoopZ.same [0, 3, 6, 7] (fun i : Nat => [(8, .int i)]) (fun i => i ≤ l.length ∧ findT g l 0 = findT g (l.drop i) i) (fun i => l.length - i) 0 rfl (by decide) rfl (fun _ => rfl) ⟨by omega, by simp⟩ ⟨⟨_, rfl, rfl⟩, trivial⟩ ?_
 conv => whnf
 refine ⟨rfl, ?_⟩
 rintro i ⟨hi, hall⟩
 conv => whnf
 refine ⟨fun h3 => ?_, fun h3 => ?_⟩
 ·have hi' : i < l.length := by simpa using h3
  rw [drop_getD default hi'] at hall
  simp only [findT] at hall
  conv => whnf
  refine .mk (by simp only [okI, Rw.rng] at *; first | omega | (simp_all; done) | (simp_all; omega)) ?_
  conv => whnf
  refine ⟨fun h4 => ?_, fun h4 => ?_⟩
  ·conv => whnf
   refine EndZ.int ?_
   have h4' : (g == l.getD i default) = true := h4
   rw [hall, h4']; rfl
  ·conv => whnf
   refine .mk (by simp only [okI, Rw.rng] at *; first | omega | (simp_all; done) | (simp_all; omega)) ?_
   conv => whnf
   refine ⟨i + 1, ⟨by omega, ?_⟩, by omega, ⟨⟨_, rfl, rfl⟩, trivial⟩, ?_, rfl⟩
   ·have h4' : (g == l.getD i default) = false := h4
    rw [hall, h4']; rfl
   ·repeat' (first | exact trivial | exact ⟨_, rfl, rfl⟩ | constructor)
 ·conv => whnf
  refine EndZ.int ?_
  have hi' : l.length ≤ i := by simpa using h3
  rw [hall, List.drop_eq_nil_of_le hi']; rfl
theorem S.ContainsThr (l : List Thr) (g : Thr) (f : Bool) (hl : l.length < 2^40) : SpecZ Tryz.prog F.slices_Contains_Lapi_Threshold_api_Threshold [.row 7 f (.thrs l), .dat (.thr g)] (.bool (l.any fun x => g == x)) := by
 refine SpecZ.of Bd.slices_Contains_Lapi_Threshold_api_Threshold (by simp) rfl rfl ?_
 conv => whnf
 refine CallZ.pure (S.IndexThr l g f hl) rfl ?_
 conv => whnf
 exact EndZ.bool findT_ge.symm
theorem lendT {h : Hz} {j : Nat} {Z : Nat → Prop} {l : List Thr} (hz : Z j) (q : h.get j = some (.row Y.api_Threshold 7 (.thrs l) [])) : T.sub Z h.toHp (V.row 7 false (.thrs l)).toT (V.own j).toT := by
 show T.sub Z h.toHp (.sl 7 false (l.map eThr)) (.own j)
 simp only [T.sub]
 refine ⟨trivial, hz, ?_, by decide, Y.api_Threshold, ?_⟩
 ·rw [freeL_iff]; intro t ht; obtain ⟨x, _, rfl⟩ := List.mem_map.1 ht; rfl
 ·have := toHp_some q
  rw [this]; simp [OV.toOb, Rw.toL, V.toL]
theorem foldl_tk {α β : Type} {f : β → α → β} {b : β} {l : List α} {i : Nat} {d : α} (h : i < l.length) : (l.take (i + 1)).foldl f b = f ((l.take i).foldl f b) (l.getD i d) := by
 rw [List.take_add_one, List.foldl_append]
 simp [List.getElem?_eq_getElem h]
theorem EndZ.ownT {h : Hz} {j : Nat} {l : List Thr} (q : h.get j = some (.row Y.api_Threshold 7 (.thrs l) [])) : EndZ (.row 7 false (.thrs l)) (.own j) h := ⟨lendT trivial q⟩
def addT (acc : List Thr) (g : Thr) : List Thr := bif acc.any (fun x => g == x) then acc else acc ++ [g]
def distT (l : List Rule) : List Thr := (l.flatMap Rule.guards).foldl addT []
theorem addT_len {acc : List Thr} {g : Thr} : (addT acc g).length ≤ acc.length + 1 := by
 unfold addT; cases acc.any (fun x => g == x) <;> simp
theorem fold_len : ∀ {l acc : List Thr}, (l.foldl addT acc).length ≤ acc.length + l.length := by
 intro l
 induction l with
 | nil => intro acc; simp
 | cons g r ih =>
  intro acc
  have := ih (acc := addT acc g)
  have h2 := addT_len (acc := acc) (g := g)
  simp only [List.foldl_cons, List.length_cons]; omega
abbrev rowT (l : List Thr) : OV := .row Y.api_Threshold 7 (.thrs l) []
def accT (p : Prot) (i k : Nat) : List Thr := ((p.rules.getD i default).guards.take k).foldl addT (distT (p.rules.take i))
theorem accT_len (p : Prot) (hp : SmallP p) (i k : Nat) (hi : i < p.rules.length) : (accT p i k).length < 2^31 := by
 have h1 := fold_len (l := (p.rules.getD i default).guards.take k) (acc := distT (p.rules.take i))
 have h2 := fold_len (l := (p.rules.take i).flatMap Rule.guards) (acc := [])
 have h3 := (hp.rule i).guards
 have h4 : ((p.rules.take i).flatMap Rule.guards).length ≤ (p.rules.flatMap Rule.guards).length := by
  conv => rhs; rw [← List.take_append_drop i p.rules, List.flatMap_append, List.length_append]
  omega
 have h5 := hp.thrs
 have h6 : ((p.rules.getD i default).guards.take k).length ≤ (p.rules.getD i default).guards.length := by simp [List.length_take]; omega
 unfold accT
 unfold distT at h1 ⊢
 simp only [List.length_nil, Nat.zero_add] at h2
 omega
theorem accT_full (p : Prot) {i : Nat} (hi : i < p.rules.length) : distT (p.rules.take (i + 1)) = accT p i (p.rules.getD i default).guards.length := by
 unfold accT
 rw [List.take_of_length_le (Nat.le_refl _)]
 unfold distT
 rw [List.take_add_one, List.flatMap_append, List.foldl_append]
 simp [List.getElem?_eq_getElem hi]
theorem S.protocol_thresholds (p : Prot) (hp : SmallP p) : SpecZ Tryz.prog F.protocol_thresholds [.dat (.prot p)] (.row 7 false (.thrs (distT p.rules))) := by
 have hp1 := hp.rules
 refine SpecZ.of Bd.protocol_thresholds (by simp) rfl rfl ?_
 conv => whnf
 refine LoopZ.nil 3 Y.api_Threshold 7 (by rfl) rfl rfl rfl ?_
 refine LoopZ.objs 1 [9, 10] (fun i : Nat => [(11, .int i), (3, .own 0)]) (fun i => [(0, rowT (distT (p.rules.take i)))]) (fun i => i ≤ p.rules.length) (fun i => p.rules.length - i) 0 [7] rfl (by decide) (fun _ => rfl) (Nat.zero_le _) ?_ ?_ ?_
 ·exact ⟨⟨_, rfl, .eq rfl⟩, ⟨_, rfl, .eq rfl⟩, trivial⟩
 ·exact ⟨⟨rfl, nofun, rfl, rfl, rfl, _, rfl, rfl, rfl, SubA.of_eq rfl⟩, trivial⟩
 conv => whnf
 refine ⟨⟨⟨_, rfl, .eq rfl⟩, ⟨_, rfl, .eq rfl⟩, trivial⟩, rfl, ?_⟩
 rintro i hi
 conv => whnf
 refine ⟨fun h3 => ?_, fun h3 => ?_⟩
 ·have hi' : i < p.rules.length := by simpa using h3
  conv => whnf
  refine .mk (by simp only [okI, Rw.rng] at *; first | omega | (simp_all; done) | (simp_all; omega)) ?_
  conv => whnf
  refine LoopZ.objs 1 [9, 10, 11, 16, 17] (fun k : Nat => [(18, .int k), (3, .own 0)]) (fun k => [(0, rowT (accT p i k))]) (fun k => k ≤ (p.rules.getD i default).guards.length) (fun k => (p.rules.getD i default).guards.length - k) 0 [0] rfl (by decide) (fun _ => rfl) (Nat.zero_le _) ?_ ?_ ?_
  ·exact ⟨⟨_, rfl, .eq rfl⟩, ⟨_, rfl, .eq rfl⟩, trivial⟩
  ·exact ⟨⟨rfl, nofun, rfl, rfl, rfl, _, rfl, rfl, rfl, SubA.of_eq rfl⟩, trivial⟩
  conv => whnf
  refine ⟨⟨⟨_, rfl, .eq rfl⟩, ⟨_, rfl, .eq rfl⟩, ⟨_, rfl, .eq rfl⟩, ⟨_, rfl, .eq rfl⟩, ⟨_, rfl, .eq rfl⟩, trivial⟩, rfl, ?_⟩
  rintro k hk
  have hacc := accT_len p hp i k hi'
  have hg := (hp.rule i).guards
  conv => whnf
  refine ⟨fun h4 => ?_, fun h4 => ?_⟩
  ·have hk' : k < (p.rules.getD i default).guards.length := by simpa using h4
   have hst : accT p i (k + 1) = addT (accT p i k) ((p.rules.getD i default).guards.getD k default) := foldl_tk hk'
   conv => whnf
   refine .mk (by simp only [okI, Rw.rng] at *; first | omega | (simp_all; done) | (simp_all; omega)) ?_
   conv => whnf
   refine CallZ.lend (S.ContainsThr (accT p i k) ((p.rules.getD i default).guards.getD k default) false (by omega)) (And.intro (lendT trivial rfl) (And.intro (sub_refl _) trivial)) rfl rfl ?_
   conv => whnf
   refine ⟨fun h5 => ?_, fun h5 => ?_⟩
   ·conv => whnf
    repeat (refine VC.mk (by first | (show ((accT p i k).length + (0 + 1)) * 48 ≤ 140737488355328 ∧ (accT p i k).length + (0 + 1) ≤ 1152921504606846976; omega) | (simp only [okI, Rw.rng] at *; first | omega | (simp_all; done) | (simp_all; omega))) ?_; conv => whnf)
    have h5' : ((accT p i k).any fun x => (p.rules.getD i default).guards.getD k default == x) = false := by simpa using h5
    refine ⟨k + 1, [13], by omega, by omega, ⟨⟨_, rfl, .eq rfl⟩, ⟨_, rfl, .eq rfl⟩, trivial⟩, ⟨⟨_, rfl, .eq rfl⟩, ⟨_, rfl, .eq rfl⟩, ⟨_, rfl, .eq rfl⟩, ⟨_, rfl, .eq rfl⟩, ⟨_, rfl, .eq rfl⟩, trivial⟩, ⟨rfl, nofun, rfl, rfl, rfl, _, rfl, rfl, rfl, SubA.of_eq ?_⟩, trivial⟩
    rw [hst, addT, h5']
    rfl
   ·conv => whnf
    refine .mk (by simp only [okI, Rw.rng] at *; first | omega | (simp_all; done) | (simp_all; omega)) ?_
    conv => whnf
    have h5' : ((accT p i k).any fun x => (p.rules.getD i default).guards.getD k default == x) = true := by simpa using h5
    refine ⟨k + 1, [0], by omega, by omega, ⟨⟨_, rfl, .eq rfl⟩, ⟨_, rfl, .eq rfl⟩, trivial⟩, ⟨⟨_, rfl, .eq rfl⟩, ⟨_, rfl, .eq rfl⟩, ⟨_, rfl, .eq rfl⟩, ⟨_, rfl, .eq rfl⟩, ⟨_, rfl, .eq rfl⟩, trivial⟩, ⟨rfl, nofun, rfl, rfl, rfl, _, rfl, rfl, rfl, SubA.of_eq ?_⟩, trivial⟩
    rw [hst, addT, h5']; rfl
  ·have hk' : (p.rules.getD i default).guards.length ≤ k := by simpa using h4
   have e : k = (p.rules.getD i default).guards.length := Nat.le_antisymm hk hk'
   subst e
   conv => whnf
   refine .mk (by simp only [okI, Rw.rng] at *; first | omega | (simp_all; done) | (simp_all; omega)) ?_
   conv => whnf
   refine ⟨i + 1, [0], by omega, by omega, ⟨⟨_, rfl, .eq rfl⟩, ⟨_, rfl, .eq rfl⟩, trivial⟩, ⟨⟨_, rfl, .eq rfl⟩, ⟨_, rfl, .eq rfl⟩, trivial⟩, ⟨rfl, nofun, rfl, rfl, rfl, _, rfl, rfl, rfl, SubA.of_eq ?_⟩, trivial⟩
   rw [accT_full p hi']
 ·have hi' : p.rules.length ≤ i := by simpa using h3
  rw [List.take_of_length_le hi']
  conv => whnf
  exact EndZ.ownT rfl
def topBad (p : Prot) : Bool := decide (p.topology < 1) || decide (p.topology > 4) || decide (p.fault < 0) || decide (p.fault > 3)
def largeP (p : Prot) : Bool := decide ((p.states.length : Int) > 6) || decide ((p.messages.length : Int) > 3) || decide ((p.values.length : Int) > 3) || decide ((p.resilience.length : Int) > 4) || decide ((p.rules.length : Int) > 8)
def misP (p : Prot) : Bool := (!(p.topology == 1) && (decide ((p.messages.length : Int) > 0) || decide ((p.values.length : Int) > 0) || decide ((p.resilience.length : Int) > 0) || p.fault != 0)) || ((p.topology == 1) && decide ((p.leader.length : Int) > 0))
def headE (p : Prot) : Int := firstE [setE p.initial p.states.length, whenE ((p.initial.length : Int) == 0) 1, setE p.leader p.states.length]
def rulesE (p : Prot) : Int := firstE ((List.range p.rules.length).map (ruleErr p))
def validE (p : Prot) : Int :=
 bif !(validName p.name) then 2 else bif topBad p then 1 else bif (p.states.length : Int) == 0 then 1 else bif largeP p then 4 else
 bif namesE p != 0 then namesE p else bif misP p then 1 else
 bif p.resilience.any (fun l => !(bndE l)) then 4 else
 bif headE p != 0 then headE p else
 bif rulesE p != 0 then rulesE p else whenE (decide (((distT p.rules).length : Int) > 3)) 4
theorem range_drop {n i : Nat} {f : Nat → Int} (h : i < n) : ((List.range n).drop i).map f = f i :: ((List.range n).drop (i + 1)).map f := by
 rw [List.drop_eq_getElem_cons (by simpa using h)]; simp
theorem S.protocol_Validate (p : Prot) (hp : SmallP p) : SpecZ Tryz.prog F.protocol_Validate [.dat (.prot p)] (.int (validE p)) := by
 have g1 := hp.states; have g2 := hp.messages; have g3 := hp.values; have g4 := hp.resilience; have g5 := hp.initial; have g6 := hp.leader; have g7 := hp.rules
 refine SpecZ.of Bd.protocol_Validate (by simp) rfl rfl ?_
 conv => whnf
 refine CallZ.pure (S.protocol_ValidName p.name) rfl ?_
 conv => whnf
 refine ⟨fun h1 => ?_, fun h1 => ?_⟩
 ·conv => whnf
  exact EndZ.int (by rw [validE, h1]; rfl)
 conv => whnf
 repeat (refine VC.mk (by first | exact fun h => h | (intro h; rw [h]; rfl)) ?_; conv => whnf)
 refine ⟨fun h2 => ?_, fun h2 => ?_⟩
 ·conv => whnf
  exact EndZ.int (by rw [validE, h1, show topBad p = true from h2]; rfl)
 conv => whnf
 refine ⟨fun h3 => ?_, fun h3 => ?_⟩
 ·conv => whnf
  exact EndZ.int (by rw [validE, h1, show topBad p = false from h2, h3]; rfl)
 conv => whnf
 repeat (refine VC.mk (by first | exact fun h => h | (intro h; rw [h]; rfl)) ?_; conv => whnf)
 refine ⟨fun h4 => ?_, fun h4 => ?_⟩
 ·conv => whnf
  exact EndZ.int (by rw [validE, h1, show topBad p = false from h2, h3, show largeP p = true from h4]; rfl)
 conv => whnf
 have h0 : 0 < p.states.length := by
  rcases Nat.eq_zero_or_pos p.states.length with e | e
  ·rw [e] at h3; exact absurd h3 (by decide)
  ·exact e
 refine CallZ.pure (S.protocol_names p h0 g1 g2 g3) rfl ?_
 conv => whnf
 refine ⟨fun h5 => ?_, fun h5 => ?_⟩
 ·conv => whnf
  exact EndZ.int (by rw [validE, h1, show topBad p = false from h2, h3, show largeP p = false from h4, h5]; rfl)
 conv => whnf
 repeat (refine VC.mk (by first | exact fun h => h | (intro h; rw [h]; rfl) | (intro h; simp_all; done)) ?_; conv => whnf)
 refine ⟨fun h6 => ?_, fun h6 => ?_⟩
 ·conv => whnf
  exact EndZ.int (by rw [validE, h1, show topBad p = false from h2, h3, show largeP p = false from h4, h5, show misP p = true from h6]; rfl)
 conv => whnf
 refine LoopZ.same [1, 4, 111, 112] (fun i : Nat => [(113, .int i)]) (fun i => i ≤ p.resilience.length ∧ (p.resilience.take i).any (fun l => !(bndE l)) = false) (fun i => p.resilience.length - i) 0 rfl (by decide) rfl (fun _ => rfl) ⟨by omega, by simp⟩ ⟨⟨_, rfl, rfl⟩, trivial⟩ ?_
 conv => whnf
 refine ⟨rfl, ?_⟩
 rintro i ⟨hi, hall⟩
 conv => whnf
 refine ⟨fun h7 => ?_, fun h7 => ?_⟩
 ·have hi' : i < p.resilience.length := by simpa using h7
  conv => whnf
  refine .mk (by simp only [okI, Rw.rng] at *; omega) ?_
  conv => whnf
  refine CallZ.pure (S.protocol_bounded (p.resilience.getD i default)) rfl ?_
  conv => whnf
  refine ⟨fun h8 => ?_, fun h8 => ?_⟩
  ·conv => whnf
   exact EndZ.int (by rw [validE, h1, show topBad p = false from h2, h3, show largeP p = false from h4, h5, show misP p = false from h6, any_of_get (d := default) hi' h8]; rfl)
  ·conv => whnf
   refine .mk (by simp only [okI, Rw.rng] at *; omega) ?_
   conv => whnf
   refine ⟨i + 1, ⟨by omega, ?_⟩, by omega, ⟨⟨_, rfl, rfl⟩, trivial⟩, ?_, rfl⟩
   ·rw [any_take (d := default) hi' hall]; exact h8
   ·repeat' (first | exact trivial | exact ⟨_, rfl, rfl⟩ | constructor)
 have hi' : p.resilience.length ≤ i := by simpa using h7
 rw [List.take_of_length_le hi'] at hall
 conv => whnf
 refine CallZ.pure (S.protocol_set p.initial p.states.length false (by omega)) rfl ?_
 conv => whnf
 refine CallZ.pure (S.protocol_when ((p.initial.length : Int) == 0) 1) rfl ?_
 conv => whnf
 refine CallZ.pure (S.protocol_set p.leader p.states.length false (by omega)) rfl ?_
 conv => whnf
 refine CallZ.pure (S.protocol_first [setE p.initial p.states.length, whenE ((p.initial.length : Int) == 0) 1, setE p.leader p.states.length] true (show 3 < 2^40 by decide)) rfl ?_
 conv => whnf
 refine ⟨fun h9 => ?_, fun h9 => ?_⟩
 ·conv => whnf
  exact EndZ.int (by rw [validE, h1, show topBad p = false from h2, h3, show largeP p = false from h4, h5, show misP p = false from h6, hall, show (headE p != 0) = true from h9]; rfl)
 conv => whnf
 refine LoopZ.same [1, 140, 141] (fun i : Nat => [(142, .int i)]) (fun i => i ≤ p.rules.length ∧ rulesE p = firstE (((List.range p.rules.length).drop i).map (ruleErr p))) (fun i => p.rules.length - i) 0 rfl (by decide) rfl (fun _ => rfl) ⟨by omega, by simp [rulesE]⟩ ⟨⟨_, rfl, rfl⟩, trivial⟩ ?_
 conv => whnf
 refine ⟨rfl, ?_⟩
 rintro i ⟨hi, hr⟩
 conv => whnf
 refine ⟨fun h10 => ?_, fun h10 => ?_⟩
 ·have hi' : i < p.rules.length := by simpa using h10
  rw [range_drop hi'] at hr
  simp only [firstE] at hr
  conv => whnf
  refine CallZ.pure (S.protocol_ruleError p i hi' hp) rfl ?_
  conv => whnf
  refine ⟨fun h11 => ?_, fun h11 => ?_⟩
  ·conv => whnf
   have h11' : ruleErr p i ≠ 0 := nez h11
   rw [if_neg h11'] at hr
   exact EndZ.int (by rw [validE, h1, show topBad p = false from h2, h3, show largeP p = false from h4, h5, show misP p = false from h6, hall, show (headE p != 0) = false from h9, hr, h11]; rfl)
  ·conv => whnf
   refine .mk (by simp only [okI, Rw.rng] at *; omega) ?_
   conv => whnf
   have h11' : ruleErr p i = 0 := eqz h11
   rw [if_pos h11'] at hr
   refine ⟨i + 1, ⟨by omega, hr⟩, by omega, ⟨⟨_, rfl, rfl⟩, trivial⟩, ?_, rfl⟩
   repeat' (first | exact trivial | exact ⟨_, rfl, rfl⟩ | constructor)
 have hi' : p.rules.length ≤ i := by simpa using h10
 rw [List.drop_eq_nil_of_le (by simpa using hi')] at hr
 conv => whnf
 refine CallZ.pure (S.protocol_thresholds p hp) rfl ?_
 conv => whnf
 refine CallZ.pure (S.protocol_when (decide (((distT p.rules).length : Int) > 3)) 4) rfl ?_
 conv => whnf
 exact EndZ.int (by rw [validE, h1, show topBad p = false from h2, h3, show largeP p = false from h4, h5, show misP p = false from h6, hall, show (headE p != 0) = false from h9, hr]; rfl)
theorem EndZ.eqv {a b : V} {h : Hz} (e : a.toT = b.toT) : EndZ a b h := ⟨by rw [e]; exact sub_refl _⟩
def risS (acc : Bool) (r : Rule) : Bool := acc && (r.kind == 1) && decide (r.fr < r.to) && ((r.ex.length : Int) == 0) && ((r.all.length : Int) == 0)
def uniS (acc : Bool) (r : Rule) : Bool := acc || decide ((r.all.length : Int) > 0)
def plainE (p : Prot) : Bool := (p.topology == 1) && (p.fault == 0) && ((p.messages.length : Int) == 0) && ((p.resilience.length : Int) == 0)
structure Cls where
 thr : Bool
 cover : Bool
 word : Bool
 tree : Bool
 monadic : Bool
def classOf (p : Prot) : Cls :=
 ⟨(p.topology == 1) && ((p.values.length : Int) == 0) && p.rules.foldl risS true, plainE p && !(p.rules.foldl uniS false), (p.topology == 2) || (p.topology == 3), p.topology == 4, plainE p && decide ((p.states.length : Int) ≤ 4)⟩
def clsV (c : Cls) : V := .agg [.bool c.thr, .bool c.cover, .bool c.word, .bool c.tree, .bool c.monadic]
def noCls : Cls := ⟨false, false, false, false, false⟩
def classE (p : Prot) : V := .tup [clsV (bif validE p != 0 then noCls else classOf p), .int (validE p)]
theorem S.protocol_Classify (p : Prot) (hp : SmallP p) : SpecZ Tryz.prog F.protocol_Classify [.dat (.prot p)] (classE p) := by
 have g1 := hp.states; have g2 := hp.messages; have g3 := hp.values; have g4 := hp.resilience; have g7 := hp.rules
 refine SpecZ.of Bd.protocol_Classify (by simp) rfl rfl ?_
 conv => whnf
 refine CallZ.pure (S.protocol_Validate p hp) rfl ?_
 conv => whnf
 refine ⟨fun h1 => ?_, fun h1 => ?_⟩
 ·conv => whnf
  refine EndZ.eqv ?_
  rw [classE, h1]; rfl
 have h1' : validE p = 0 := eqz h1
 conv => whnf
 refine LoopZ.same [1, 2, 3, 18, 19] (fun i : Nat => [(20, .int i), (5, .bool ((p.rules.take i).foldl risS true)), (6, .bool ((p.rules.take i).foldl uniS false))]) (fun i => i ≤ p.rules.length) (fun i => p.rules.length - i) 0 rfl (by decide) rfl (fun _ => rfl) (Nat.zero_le _) ⟨⟨_, rfl, rfl⟩, ⟨_, rfl, rfl⟩, ⟨_, rfl, rfl⟩, trivial⟩ ?_
 conv => whnf
 refine ⟨rfl, ?_⟩
 rintro i hi
 have g8 := hp.rule i
 have g9 := g8.ex; have g10 := g8.all
 conv => whnf
 refine ⟨fun h7 => ?_, fun h7 => ?_⟩
 ·have hi' : i < p.rules.length := by simpa using h7
  conv => whnf
  repeat (refine VC.mk (by first | exact fun h => h | exact fun h => ⟨h, h⟩ | (intro h; rw [h]; rfl) | (simp only [okI, Rw.rng] at *; omega)) ?_; conv => whnf)
  refine ⟨i + 1, by omega, by omega, ⟨⟨_, rfl, rfl⟩, ⟨_, rfl, ?_⟩, ⟨_, rfl, ?_⟩, trivial⟩, ?_, rfl⟩
  ·rw [foldl_tk (d := default) hi']; rfl
  ·rw [foldl_tk (d := default) hi']; rfl
  ·repeat' (first | exact trivial | exact ⟨_, rfl, rfl⟩ | constructor)
 have hi' : p.rules.length ≤ i := by simpa using h7
 rw [List.take_of_length_le hi']
 conv => whnf
 repeat (refine VC.mk (by first | exact fun h => h | (intro h; rw [h]; rfl)) ?_; conv => whnf)
 refine EndZ.eqv ?_
 rw [classE, h1']
 rfl
def unusedE (r : Rule) (t : Int) : Bool :=
 bif !(r.kind == 1) && (decide ((r.guards.length : Int) > 0) || decide ((r.ex.length : Int) > 0) || decide ((r.all.length : Int) > 0) || decide ((r.send.length : Int) > 0)) then true else
 bif !(r.kind == 1) && !(r.kind == 2) && !(r.kind == 3) && (r.read != -1 || r.write != -1) then true else
 bif !(r.kind == 2) && !(r.kind == 5) && (r.pfrom != 0 || r.pto != 0) then true else
 bif (!(r.kind == 3) && decide ((r.response.length : Int) > 0)) || (!(r.kind == 5) && r.direction != 0) then true else
 bif !(r.kind == 4) && (r.pos != 0 || decide ((r.left.length : Int) > 0) || decide ((r.right.length : Int) > 0)) then true else
 decide ((r.parent.length : Int) > 0) && !((r.kind == 4) && (t == 4))
theorem gt0 {n : Nat} : decide ((n : Int) > 0) = !(n == 0) := by
 cases n with
 | zero => rfl
 | succ n => rw [decide_eq_true (by omega)]; rfl
theorem sum0 (a b c d e f g h : Nat) : decide ((a : Int) + b + c + d + e + f + g + h > 0) = (!(a == 0) || !(b == 0) || !(c == 0) || !(d == 0) || !(e == 0) || !(f == 0) || !(g == 0) || !(h == 0)) := by
 rw [Bool.eq_iff_iff]
 simp only [decide_eq_true_eq, Bool.or_eq_true, Bool.not_eq_true', beq_eq_false_iff_ne, ne_eq]
 omega
theorem unused_surplus {r : Rule} {t : Int} (h : 1 ≤ r.kind ∧ r.kind ≤ 5) : unusedE r t = surplusE r t := by
 have hk : r.kind = 1 ∨ r.kind = 2 ∨ r.kind = 3 ∨ r.kind = 4 ∨ r.kind = 5 := by omega
 simp only [unusedE, surplusE, chkE, gt0, sum0, bne]
 generalize (r.guards.length == 0) = g1
 generalize (r.ex.length == 0) = g2
 generalize (r.all.length == 0) = g3
 generalize (r.send.length == 0) = g4
 generalize (r.response.length == 0) = g5
 generalize (r.left.length == 0) = g6
 generalize (r.right.length == 0) = g7
 generalize (r.parent.length == 0) = g8
 generalize (r.read == -1) = g9
 generalize (r.write == -1) = g10
 generalize (r.pfrom == 0) = g11
 generalize (r.pto == 0) = g12
 generalize (r.direction == 0) = g13
 generalize (r.pos == 0) = g14
 rcases hk with hk | hk | hk | hk | hk <;> rw [hk] <;>
  (first
   | (simp; done)
   | (cases (t == 4) <;> simp <;> grind)
   | (simp; grind))
end Go.Proofs.YtgokbcjkbdabnaaGreatDoor
