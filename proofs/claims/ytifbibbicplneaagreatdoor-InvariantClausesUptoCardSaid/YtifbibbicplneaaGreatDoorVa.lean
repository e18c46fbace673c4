/-
 A part of the proof. No condition.
-/
import Derived.Test.YtifbibbicplneaaGreatDoorNb
import Derived.Test.YtifbibbicplneaaGreatDoorLf
namespace Go.Proofs.YtifbibbicplneaaGreatDoor
open Go.Ab Go.Proofs
set_option maxRecDepth 100000
def cu (b : Bool) (e : Int) : Int := bif b then e else 0
theorem S.bM (b : Bool) (e : Int) : aj Tryz.prog 130 [.bool b, .int e] (.int (cu b e)) := by
 refine aj.of Bd.bM (by simp) rfl rfl ?_
 conv => whnf
 refine ⟨fun h => ?_, fun h => ?_⟩
 ·conv => whnf
  exact ak.int (by rw [h]; rfl)
 ·conv => whnf
  exact ak.int (by rw [h]; rfl)
def nK (i n : Int) : Bool := decide (i < 0) || decide (i ≥ n)
def bW (i n : Int) : Int := cu (nK i n) 5
theorem S.bQ (i n : Int) : aj Tryz.prog 158 [.int i, .int n] (.int (bW i n)) := by
 refine aj.of Bd.bQ (by simp) rfl rfl ?_
 conv => whnf
 repeat (refine VC.mk (by first | exact fun h => ⟨h, h⟩ | (intro h; rw [h]; rfl)) ?_; conv => whnf)
 refine ah.pure (S.bM (nK i n) 5) rfl ?_
 conv => whnf
 exact ak.int rfl
def aQ : List Int → Int
 | [] => 0
 | e :: r => if e = 0 then aQ r else e
theorem S.bJ (l : List Int) (f : Bool) (hl : l.length < 2^40) : aj Tryz.prog 129 [.row 0 f (.ints l)] (.int (aQ l)) := by
 refine aj.of Bd.bJ (by simp) rfl rfl ?_
 conv => whnf
 refine aG.same [5, 6] (fun i : Nat => [(7, .int i)]) (fun i => i ≤ l.length ∧ aQ l = aQ (l.drop i)) (fun i => l.length - i) 0 rfl (by decide) rfl (fun _ => rfl) ⟨by omega, by simp⟩ ⟨⟨_, rfl, rfl⟩, trivial⟩ ?_
 conv => whnf
 refine ⟨rfl, ?_⟩
 rintro i ⟨hi, hall⟩
 conv => whnf
 refine ⟨fun h3 => ?_, fun h3 => ?_⟩
 ·have hi' : i < l.length := by simpa using h3
  rw [aZ 0 hi'] at hall
  simp only [aQ] at hall
  conv => whnf
  refine .mk (by simp only [Rw.rng] at *; omega) ?_
  conv => whnf
  refine ⟨fun h4 => ?_, fun h4 => ?_⟩
  ·conv => whnf
   refine ak.int ?_
   have : l.getD i 0 ≠ 0 := by simpa using h4
   rw [hall, if_neg this]; rfl
  ·conv => whnf
   refine .mk (by simp only [okI] at *; omega) ?_
   conv => whnf
   have : l.getD i 0 = 0 := by simpa using h4
   rw [if_pos this] at hall
   refine ⟨i + 1, ⟨by omega, hall⟩, by omega, ⟨⟨_, rfl, rfl⟩, trivial⟩, ?_, rfl⟩
   repeat' (first | exact trivial | exact ⟨_, rfl, rfl⟩ | constructor)
 ·conv => whnf
  refine ak.int ?_
  have hi' : l.length ≤ i := by simpa using h3
  rw [hall, List.drop_eq_nil_of_le hi']; rfl
def wO : List Int → Bool
 | a :: b :: r => decide (a < b) && wO (b :: r)
 | _ => true
def dJ (l : List Int) (n : Int) : Int := bif l.any (fun i => nK i n) then 5 else bif wO l then 0 else 1
theorem S.dM (l : List Int) (n : Int) (f : Bool) (hl : l.length < 2^40) : aj Tryz.prog 128 [.row 0 f (.ints l), .int n] (.int (dJ l n)) := by
 refine aj.of Bd.dM (by simp) rfl rfl ?_
 conv => whnf
 refine aG.same [0, 1, 8, 9] (fun i : Nat => [(10, .int i)]) (fun i => i ≤ l.length ∧ (l.take i).any (fun i => nK i n) = false) (fun i => l.length - i) 0 rfl (by decide) rfl (fun _ => rfl) ⟨by omega, by simp⟩ ⟨⟨_, rfl, rfl⟩, trivial⟩ ?_
 conv => whnf
 refine ⟨rfl, ?_⟩
 rintro i ⟨hi, hall⟩
 conv => whnf
 refine ⟨fun h3 => ?_, fun h3 => ?_⟩
 ·have hi' : i < l.length := by simpa using h3
  conv => whnf
  repeat (refine VC.mk (by first | exact fun h => ⟨h, h⟩ | (intro h; rw [h]; rfl) | (simp only [Rw.rng] at *; omega)) ?_; conv => whnf)
  refine ⟨fun h4 => ?_, fun h4 => ?_⟩
  ·conv => whnf
   refine ak.int ?_
   rw [dJ, fZ (d := 0) hi' h4]; rfl
  ·conv => whnf
   refine .mk (by simp only [okI] at *; omega) ?_
   conv => whnf
   refine ⟨i + 1, ⟨by omega, ?_⟩, by omega, ⟨⟨_, rfl, rfl⟩, trivial⟩, ?_, rfl⟩
   ·rw [jF (d := 0) hi' hall]; exact h4
   ·repeat' (first | exact trivial | exact ⟨_, rfl, rfl⟩ | constructor)
 ·have hi' : l.length ≤ i := by simpa using h3
  rw [List.take_of_length_le hi'] at hall
  conv => whnf
  refine aG.same [0] (fun i : Nat => [(7, .int (i + 1))]) (fun i => (i < l.length ∨ i = 0) ∧ wO l = wO (l.drop i)) (fun i => l.length - i) 0 rfl (by decide) rfl (fun _ => rfl) ⟨by omega, by simp⟩ ⟨⟨_, rfl, rfl⟩, trivial⟩ ?_
  conv => whnf
  refine ⟨rfl, ?_⟩
  rintro i ⟨hi, hinc⟩
  conv => whnf
  refine ⟨fun h5 => ?_, fun h5 => ?_⟩
  ·have hi1 : i + 1 < l.length := by have := of_decide_eq_true h5; omega
   rw [aZ 0 (show i < l.length by omega), aZ 0 hi1] at hinc
   simp only [wO] at hinc
   rw [← aZ 0 hi1] at hinc
   conv => whnf
   repeat (refine VC.mk (by simp only [okI, Rw.rng] at *; omega) ?_; conv => whnf)
   refine ⟨fun h6 => ?_, fun h6 => ?_⟩
   ·conv => whnf
    refine ak.int ?_
    have e1 : ((i : Int) + 1).toNat = i + 1 := by omega
    have e2 : ((i : Int) + 1 - 1).toNat = i := by omega
    rw [e1, e2] at h6
    have h6' : l.getD (i + 1) 0 ≤ l.getD i 0 := of_decide_eq_true h6
    rw [dJ, hall, hinc, decide_eq_false (by omega)]; rfl
   ·conv => whnf
    refine .mk (by simp only [okI] at *; omega) ?_
    conv => whnf
    have e1 : ((i : Int) + 1).toNat = i + 1 := by omega
    have e2 : ((i : Int) + 1 - 1).toNat = i := by omega
    rw [e1, e2] at h6
    have h6' : ¬ l.getD (i + 1) 0 ≤ l.getD i 0 := of_decide_eq_false h6
    rw [decide_eq_true (by omega), Bool.true_and] at hinc
    refine ⟨i + 1, ⟨by omega, hinc⟩, by omega, ⟨⟨_, rfl, rfl⟩, trivial⟩, ?_, rfl⟩
    repeat' (first | exact trivial | exact ⟨_, rfl, rfl⟩ | constructor)
  ·conv => whnf
   refine ak.int ?_
   have h5' : ¬ ((i : Int) + 1 < l.length) := of_decide_eq_false h5
   have : wO l = true := by
    rw [hinc]
    rcases hd : l.drop i with _ | ⟨a, _ | ⟨b, r⟩⟩
    ·rfl
    ·rfl
    ·have := congrArg List.length hd
     simp only [List.length_drop, List.length_cons] at this
     omega
   rw [dJ, hall, this]; rfl
def X0 (n : Int) : Bool := decide (n ≥ -100) && decide (n ≤ 100)
theorem S.gI (n : Int) : aj Tryz.prog 173 [.int n] (.bool (X0 n)) := by
 refine aj.of Bd.gI (by simp) rfl rfl ?_
 conv => whnf
 repeat (refine VC.mk id ?_; conv => whnf)
 exact ak.bool rfl
def Px (l : Y3) : Bool := X0 l.c && X0 l.n && X0 l.t && X0 l.f
theorem S.jw (l : Y3) : aj Tryz.prog 154 [.dat (.lin l)] (.bool (Px l)) := by
 refine aj.of Bd.jw (by simp) rfl rfl ?_
 conv => whnf
 refine ah.pure (S.gI l.c) rfl ?_
 conv => whnf
 repeat (refine VC.mk id ?_; conv => whnf)
 refine ah.cO (fun _ => S.gI l.n) rfl ?_
 conv => whnf
 repeat (refine VC.mk id ?_; conv => whnf)
 refine ah.cO (fun _ => S.gI l.t) rfl ?_
 conv => whnf
 repeat (refine VC.mk id ?_; conv => whnf)
 refine ah.cO (fun _ => S.gI l.f) rfl ?_
 conv => whnf
 refine VC.mk id ?_
 conv => whnf
 exact ak.bool rfl
def jE (p : aS) (v : Int) : Int := cu (decide (v < -1) || decide (v ≥ p.values.length)) 5
theorem S.fE (p : aS) (v : Int) : aj Tryz.prog 179 [.dat (.bT p), .int v] (.int (jE p v)) := by
 refine aj.of Bd.fE (by simp) rfl rfl ?_
 conv => whnf
 repeat (refine VC.mk (by first | exact id | exact fun h => ⟨h, h⟩ | (intro h; rw [h]; rfl)) ?_; conv => whnf)
 refine ah.pure (S.bM _ 5) rfl ?_
 conv => whnf
 exact ak.int rfl
theorem Gh {a : Int} (h : (a != 0) = true) : a ≠ 0 := by simpa using h
theorem uZ {a : Int} (h : (a != 0) = false) : a = 0 := by simpa using h
def uh (k t : Int) : Bool := bif k == 1 || k == 2 || k == 3 then t == 1 else bif k == 4 || k == 5 then !(t == 1) else false
theorem S.oO (k t : Int) : aj Tryz.prog 176 [.int k, .int t] (.bool (uh k t)) := by
 refine aj.of Bd.oO (by simp) rfl rfl ?_
 conv => whnf
 refine ⟨fun h1 => ?_, fun h1 => ?_⟩
 ·conv => whnf
  refine Fork.mk (fun _ => ?_) (fun q => absurd (q.symm.trans (h1)) Bool.false_ne_true)
  conv => whnf
  exact ak.bool (by simp [uh, h1])
 ·conv => whnf
  refine ⟨fun h2 => ?_, fun h2 => ?_⟩
  ·conv => whnf
   refine Fork.mk (fun _ => ?_) (fun q => absurd (q.symm.trans (h2)) Bool.false_ne_true)
   conv => whnf
   exact ak.bool (by simp [uh, h1, h2])
  ·conv => whnf
   refine ⟨fun h3 => ?_, fun h3 => ?_⟩
   ·conv => whnf
    exact ak.bool (by simp [uh, h1, h2, h3])
   ·conv => whnf
    refine ⟨fun h4 => ?_, fun h4 => ?_⟩
    ·conv => whnf
     refine Fork.mk (fun _ => ?_) (fun q => absurd (q.symm.trans (h4)) Bool.false_ne_true)
     conv => whnf
     exact ak.bool (by simp [uh, h1, h2, h3, h4, bne])
    ·conv => whnf
     refine ⟨fun h5 => ?_, fun h5 => ?_⟩
     ·conv => whnf
      exact ak.bool (by simp [uh, h1, h2, h3, h4, h5, bne])
     ·conv => whnf
      exact ak.bool (by simp [uh, h1, h2, h3, h4, h5])
def oV : List Int → Int → Int
 | [], _ => 0
 | x :: r, n => if bW x n = 0 then oV r n else bW x n
def Dx (l : List Int) (n : Int) : Int := bif (l.length : Int) != n then 1 else oV l n
theorem S.jS (l : List Int) (n : Int) (f : Bool) (hl : l.length < 2^40) : aj Tryz.prog 180 [.row 0 f (.ints l), .int n] (.int (Dx l n)) := by
 refine aj.of Bd.jS (by simp) rfl rfl ?_
 conv => whnf
 refine ⟨fun h => ?_, fun h => ?_⟩
 ·conv => whnf
  exact ak.int (by rw [Dx, h]; rfl)
 ·conv => whnf
  refine aG.same [0, 1, 12, 13] (fun i : Nat => [(14, .int i)]) (fun i => i ≤ l.length ∧ oV l n = oV (l.drop i) n) (fun i => l.length - i) 0 rfl (by decide) rfl (fun _ => rfl) ⟨by omega, by simp⟩ ⟨⟨_, rfl, rfl⟩, trivial⟩ ?_
  conv => whnf
  refine ⟨rfl, ?_⟩
  rintro i ⟨hi, hall⟩
  conv => whnf
  refine ⟨fun h3 => ?_, fun h3 => ?_⟩
  ·have hi' : i < l.length := by simpa using h3
   rw [aZ 0 hi'] at hall
   simp only [oV] at hall
   conv => whnf
   refine .mk (by simp only [Rw.rng] at *; omega) ?_
   conv => whnf
   refine ah.pure (S.bQ (l.getD i 0) n) rfl ?_
   conv => whnf
   refine ⟨fun h4 => ?_, fun h4 => ?_⟩
   ·conv => whnf
    refine ak.int ?_
    have : bW (l.getD i 0) n ≠ 0 := by simpa using h4
    rw [Dx, h, cond_false, hall, if_neg this]
   ·conv => whnf
    refine .mk (by simp only [okI] at *; omega) ?_
    conv => whnf
    have : bW (l.getD i 0) n = 0 := by simpa using h4
    rw [if_pos this] at hall
    refine ⟨i + 1, ⟨by omega, hall⟩, by omega, ⟨⟨_, rfl, rfl⟩, trivial⟩, ?_, rfl⟩
    repeat' (first | exact trivial | exact ⟨_, rfl, rfl⟩ | constructor)
  ·conv => whnf
   refine ak.int ?_
   have hi' : l.length ≤ i := by simpa using h3
   rw [Dx, h, cond_false, hall, List.drop_eq_nil_of_le hi']; rfl
def guardE (p : aS) (g : y8) : Int := aQ [bW g.message p.messages.length, cu (decide (g.Eb < 1) || decide (g.Eb > 100)) 1, cu (!(Px g.bound)) 4]
def jW (p : aS) : List y8 → Int
 | [] => 0
 | g :: r => if guardE p g = 0 then jW p r else guardE p g
def wI (p : aS) (l : List y8) : Int := if jW p l = 0 then cu (decide ((l.length : Int) > 2)) 4 else jW p l
theorem S.mP (p : aS) (l : List y8) (f : Bool) (hl : l.length < 2^40) : aj Tryz.prog 178 [.dat (.bT p), .row 7 f (.qQ l)] (.int (wI p l)) := by
 refine aj.of Bd.mP (by simp) rfl rfl ?_
 conv => whnf
 refine aG.same [1, 2, 8, 9] (fun i : Nat => [(10, .int i)]) (fun i => i ≤ l.length ∧ jW p l = jW p (l.drop i)) (fun i => l.length - i) 0 rfl (by decide) rfl (fun _ => rfl) ⟨by omega, by simp⟩ ⟨⟨_, rfl, rfl⟩, trivial⟩ ?_
 conv => whnf
 refine ⟨rfl, ?_⟩
 rintro i ⟨hi, hall⟩
 conv => whnf
 refine ⟨fun h3 => ?_, fun h3 => ?_⟩
 ·have hi' : i < l.length := by simpa using h3
  rw [aZ default hi'] at hall
  simp only [jW] at hall
  conv => whnf
  refine .mk (by simp only [Rw.rng] at *; omega) ?_
  conv => whnf
  refine ah.pure (S.bQ (l.getD i default).message p.messages.length) rfl ?_
  conv => whnf
  repeat (refine VC.mk (by first | exact id | (intro h; rw [h]; rfl)) ?_; conv => whnf)
  refine ah.pure (S.bM (decide ((l.getD i default).Eb < 1) || decide ((l.getD i default).Eb > 100)) 1) rfl ?_
  conv => whnf
  refine ah.pure (S.jw (l.getD i default).bound) rfl ?_
  conv => whnf
  refine ah.pure (S.bM (!(Px (l.getD i default).bound)) 4) rfl ?_
  conv => whnf
  refine ah.pure (S.bJ [bW (l.getD i default).message p.messages.length, cu (decide ((l.getD i default).Eb < 1) || decide ((l.getD i default).Eb > 100)) 1, cu (!(Px (l.getD i default).bound)) 4] true (show 3 < 2^40 by decide)) rfl ?_
  conv => whnf
  refine ⟨fun h4 => ?_, fun h4 => ?_⟩
  ·conv => whnf
   refine ak.int ?_
   have h4' : guardE p (l.getD i default) ≠ 0 := Gh h4
   rw [if_neg h4'] at hall
   rw [wI, hall, if_neg h4']; rfl
  ·conv => whnf
   refine .mk (by simp only [okI] at *; omega) ?_
   conv => whnf
   have h4' : guardE p (l.getD i default) = 0 := uZ h4
   rw [if_pos h4'] at hall
   refine ⟨i + 1, ⟨by omega, hall⟩, by omega, ⟨⟨_, rfl, rfl⟩, trivial⟩, ?_, rfl⟩
   repeat' (first | exact trivial | exact ⟨_, rfl, rfl⟩ | constructor)
 ·have hi' : l.length ≤ i := by simpa using h3
  rw [List.drop_eq_nil_of_le hi'] at hall
  conv => whnf
  refine ah.pure (S.bM (decide ((l.length : Int) > 2)) 4) rfl ?_
  conv => whnf
  exact ak.int (by rw [wI, hall]; rfl)
structure wJ (r : Rule) : Prop where
 response : r.response.length < 2^30
 guards : r.guards.length < 2^30
 ex : r.ex.length < 2^30
 all : r.all.length < 2^30
 send : r.send.length < 2^30
 left : r.left.length < 2^30
 right : r.right.length < 2^30
 parent : r.parent.length < 2^30
def Dj (r : Rule) : Bool :=
 decide ((r.response.length : Int) + r.guards.length + r.ex.length + r.all.length + r.send.length + r.left.length + r.right.length + r.parent.length > 0) || r.jl != 0 || r.Du != 0 || r.pos != 0 || r.direction != 0 || r.read != -1 || r.write != -1
def kM (r : Rule) (t : Int) : Bool :=
 bif r.kind == 1 then Dj { r with guards := [], ex := [], all := [], send := [], read := -1, write := -1 } else
 bif r.kind == 2 then (bif decide ((r.response.length : Int) > 0) then true else Dj { r with jl := 0, Du := 0, response := [], read := -1, write := -1 }) else
 bif r.kind == 3 then Dj { r with response := [], read := -1, write := -1 } else
 bif r.kind == 4 then (bif t == 4 then Dj { r with pos := 0, left := [], right := [], parent := [] } else Dj { r with pos := 0, left := [], right := [] }) else
 bif r.kind == 5 then Dj { r with jl := 0, Du := 0, direction := 0 } else Dj r
theorem S.lM (r : Rule) (t : Int) (hs : wJ r) : aj Tryz.prog 177 [.dat (.rule r), .int t] (.bool (kM r t)) := by
 obtain ⟨g1, g2, g3, g4, g5, g6, g7, g8⟩ := hs
 refine aj.of Bd.lM (by simp) rfl rfl ?_
 conv => whnf
 refine ⟨fun h1 => ?_, fun h1 => ?_⟩
 ·conv => whnf
  repeat (refine VC.mk (by first | exact id | (intro h; rw [h]; rfl) | (simp only [okI] at *; omega)) ?_; conv => whnf)
  exact ak.bool (by simp [kM, Dj, h1])
 ·conv => whnf
  refine ⟨fun h2 => ?_, fun h2 => ?_⟩
  ·conv => whnf
   refine ⟨fun h6 => ?_, fun h6 => ?_⟩
   ·conv => whnf
    exact ak.bool (by rw [kM, h1, h2, show decide ((r.response.length : Int) > 0) = true from h6]; rfl)
   ·conv => whnf
    repeat (refine VC.mk (by first | exact id | (intro h; rw [h]; rfl) | (simp only [okI] at *; omega)) ?_; conv => whnf)
    exact ak.bool (by rw [kM, h1, h2, show decide ((r.response.length : Int) > 0) = false from h6]; simp [Dj])
  ·conv => whnf
   refine ⟨fun h3 => ?_, fun h3 => ?_⟩
   ·conv => whnf
    repeat (refine VC.mk (by first | exact id | (intro h; rw [h]; rfl) | (simp only [okI] at *; omega)) ?_; conv => whnf)
    exact ak.bool (by simp [kM, Dj, h1, h2, h3])
   ·conv => whnf
    refine ⟨fun h4 => ?_, fun h4 => ?_⟩
    ·conv => whnf
     refine ⟨fun h7 => ?_, fun h7 => ?_⟩
     ·conv => whnf
      repeat (refine VC.mk (by first | exact id | (intro h; rw [h]; rfl) | (simp only [okI] at *; omega)) ?_; conv => whnf)
      exact ak.bool (by simp [kM, Dj, h1, h2, h3, h4, h7])
     ·conv => whnf
      repeat (refine VC.mk (by first | exact id | (intro h; rw [h]; rfl) | (simp only [okI] at *; omega)) ?_; conv => whnf)
      exact ak.bool (by simp [kM, Dj, h1, h2, h3, h4, h7])
    ·conv => whnf
     refine ⟨fun h5 => ?_, fun h5 => ?_⟩
     ·conv => whnf
      repeat (refine VC.mk (by first | exact id | (intro h; rw [h]; rfl) | (simp only [okI] at *; omega)) ?_; conv => whnf)
      exact ak.bool (by simp [kM, Dj, h1, h2, h3, h4, h5])
     ·conv => whnf
      repeat (refine VC.mk (by first | exact id | (intro h; rw [h]; rfl) | (simp only [okI] at *; omega)) ?_; conv => whnf)
      exact ak.bool (by simp [kM, Dj, h1, h2, h3, h4, h5])
def X3 (h : Hz) : Hz → Prop
 | [] => True
 | (i, o) :: r => h.get i = o ∧ X3 h r
theorem Vx {h : Hz} : ∀ {h0 : Hz}, X3 h h0 → ∀ {i : Nat} {o : OV}, h0.get i = some o → h.get i = some o := by
 intro h0
 induction h0 with
 | nil => intro _ i o e; cases e
 | cons p r ih =>
  obtain ⟨j, u⟩ := p
  intro hs i o e
  simp only [Hz.get] at e
  cases hb : Nat.beq j i with
  | true => rw [hb] at e; simp only [cond_true] at e; rw [← Nat.eq_of_beq_eq_true hb, hs.1, e]
  | false => rw [hb] at e; exact ih hs.2 e
def Vy : Hz → Bool
 | [] => true
 | (_, some o) :: r => o.LD && Vy r
 | (_, none) :: r => Vy r
theorem PS : ∀ {h0 : Hz}, Vy h0 = true → ∀ {i : Nat} {o : OV}, h0.get i = some o → o.LD = true := by
 intro h0
 induction h0 with
 | nil => intro _ i o e; cases e
 | cons p r ih =>
  obtain ⟨j, u⟩ := p
  intro hs i o e
  simp only [Hz.get] at e
  cases hb : Nat.beq j i with
  | true =>
   rw [hb] at e; simp only [cond_true] at e; subst e
   simp only [Vy, Bool.and_eq_true] at hs; exact hs.1
  | false =>
   rw [hb] at e
   refine ih ?_ e
   cases u with
   | none => exact hs
   | some o => simp only [Vy, Bool.and_eq_true] at hs; exact hs.2
theorem OV.PU {o : OV} (h : o.LD = true) : T.aO (fun _ => False) o.aF.l := OV.GR h
theorem kZ.same {nx : Nat} {h0 h : Hz} {n : Nat} {post : T → Hp → Prop} {v : V} (hf : v.free = true) (hs : X3 h h0) (hg : xk nx h0 = true) (hfr : Vy h0 = true) (hp : post v.aH h0.au) : kZ h0 n post v h := by
 have hG := qH hg
 have get : ∀ i ob, h0.au i = some ob → ∃ o, h0.get i = some o ∧ ob = o.aF := fun i ob e => by
  simp only [Hz.au, Option.map_eq_some_iff] at e
  obtain ⟨o, e1, e2⟩ := e
  exact ⟨o, e1, e2.symm⟩
 have hfree := V.lZ v hf
 refine ⟨fun _ => False, id, v.aH, h0.au, hp, ?_, fun i ob hi => ?_, fun i j _ _ e => e, T.bP (fun _ h => h.elim) _ (ig hfree), fun i ob hi => ?_, fun i _ _ => rfl⟩
 ·rw [Jd]; exact aC _
 ·obtain ⟨o, e1, rfl⟩ := get i ob hi
  refine ⟨o.aF, aN (Vx hs e1), fun h => h, rfl, rfl, ?_, zQ (hG i _ hi).2.2⟩
  rw [uH _ (OV.PU (PS hfr e1))]; exact bZ _
 ·obtain ⟨o, e1, rfl⟩ := get i ob hi
  exact ⟨.inl (by rw [hi]; rfl), T.ay (fun _ h => h.elim) _ (OV.PU (PS hfr e1))⟩
abbrev ZI (p : aS) (r : Rule) : Hz := [(7, some (.box 107 19 (.dat (.rule r)))), (0, some (.box 27 11 (.dat (.bT p))))]
theorem S.Np (p : aS) (r x : Rule) (n : Nat) : aT Tryz.prog 175 (V.aY [.dat (.rule x), .ptr 7 0 0]) (ZI p r).au n (fun t hp => t = .bool (x.name == r.name) ∧ hp = (ZI p r).au) := by
 refine sV.of (nx := 8) Bd.nC (by simp) ⟨_, _, rfl, rfl⟩ rfl rfl ?_
 conv => whnf
 exact kZ.same (nx := 8) rfl ⟨rfl, rfl, trivial⟩ rfl rfl ⟨rfl, rfl⟩
def EC (s : Str) : List Rule → Nat → Int
 | [], _ => -1
 | x :: r, i => bif x.name == s then (i : Int) else EC s r (i + 1)
theorem S.Vz (p : aS) (r : Rule) (l : List Rule) (f : Bool) (hl : l.length < 2^30) (n : Nat) : aT Tryz.prog 188 (V.aY [.row 19 f (.rules l), .fn 175 [.ptr 7 0 0]]) (ZI p r).au n (fun t hp => t = .int (EC r.name l 0) ∧ hp = (ZI p r).au) := by
 refine sV.of (nx := 8) Bd.fF (by simp) ⟨_, _, rfl, rfl⟩ rfl rfl ?_
 conv => whnf
 refine aG.same [0, 1, 6, 7] (fun i : Nat => [(8, .int i)]) (fun i => i ≤ l.length ∧ EC r.name l 0 = EC r.name (l.drop i) i) (fun i => l.length - i) 0 rfl (by decide) rfl (fun _ => rfl) ⟨by omega, by simp⟩ ⟨⟨_, rfl, rfl⟩, trivial⟩ ?_
 conv => whnf
 refine ⟨rfl, ?_⟩
 rintro i ⟨hi, hall⟩
 conv => whnf
 refine ⟨fun h3 => ?_, fun h3 => ?_⟩
 ·have hi' : i < l.length := by simpa using h3
  rw [aZ default hi'] at hall
  simp only [EC] at hall
  conv => whnf
  refine .mk (by simp only [Rw.rng] at *; omega) ?_
  conv => whnf
  refine ah.heap (S.Np p r (l.getD i default) _) ?_
  rintro t hp ⟨rfl, rfl⟩
  refine ⟨.bool _, ZI p r, rfl, rfl, ?_⟩
  conv => whnf
  refine ⟨fun h4 => ?_, fun h4 => ?_⟩
  ·conv => whnf
   rw [h4] at hall
   exact kZ.same (nx := 8) rfl ⟨rfl, rfl, trivial⟩ rfl rfl ⟨by rw [hall]; rfl, rfl⟩
  ·conv => whnf
   refine .mk (by simp only [okI] at *; omega) ?_
   conv => whnf
   rw [h4] at hall
   refine ⟨i + 1, ⟨by omega, hall⟩, by omega, ⟨⟨_, rfl, rfl⟩, trivial⟩, ?_, rfl⟩
   repeat' (first | exact trivial | exact ⟨_, rfl, rfl⟩ | constructor)
 ·conv => whnf
  have hi' : l.length ≤ i := by simpa using h3
  rw [List.drop_eq_nil_of_le hi'] at hall
  exact kZ.same (nx := 8) rfl ⟨rfl, rfl, trivial⟩ rfl rfl ⟨by rw [hall]; rfl, rfl⟩
theorem X4 {s : Str} {l : List Rule} {i : Nat} : decide (0 ≤ EC s l i) = l.any fun x => x.name == s := by
 have : ∀ {l : List Rule} {i : Nat}, 0 ≤ EC s l i ↔ (l.any fun x => x.name == s) = true := by
  intro l
  induction l with
  | nil => intro i; simp [EC]
  | cons x r ih =>
   intro i
   rw [List.any_cons, Bool.or_eq_true, ← ih (i := i + 1)]
   show (0 : Int) ≤ (bif x.name == s then (i : Int) else EC s r (i + 1)) ↔ _
   generalize (x.name == s) = b
   cases b <;> simp
 rw [Bool.eq_iff_iff, decide_eq_true_eq]; exact this
theorem S.Nq (p : aS) (r : Rule) (l : List Rule) (f : Bool) (hl : l.length < 2^30) (n : Nat) : aT Tryz.prog 174 (V.aY [.row 19 f (.rules l), .fn 175 [.ptr 7 0 0]]) (ZI p r).au n (fun t hp => t = .bool (l.any fun x => x.name == r.name) ∧ hp = (ZI p r).au) := by
 refine sV.of (nx := 8) Bd.eP (by simp) ⟨_, _, rfl, rfl⟩ rfl rfl ?_
 conv => whnf
 refine ah.heap (S.Vz p r l f hl _) ?_
 rintro t hp ⟨rfl, rfl⟩
 refine ⟨.int _, ZI p r, rfl, rfl, ?_⟩
 conv => whnf
 exact kZ.same (nx := 8) rfl ⟨rfl, rfl, trivial⟩ rfl rfl ⟨by rw [← X4 (i := 0)]; rfl, rfl⟩
theorem ah.mkRow {P : Program} {f : FuncId} {args : List V} {h : Hz} {n ty k : Nat} {r : Rw} {K : V → Hz → Prop} {KW : Nat → V → Hz → Prop} (H : wU P f (V.aY args) (fun n => .own n) (some ⟨ty, k, r.aY⟩)) (hK : K (.own n) ((n, some (.row ty k r [])) :: h)) : ah P false none f args h n K KW :=
 ah.heap (wU.frame H _ _) (by rintro t hp ⟨rfl, rfl⟩; exact ⟨.own n, _, rfl, by rw [bD]; simp [oJ, OV.aF, V.aY], hK⟩)
theorem S.Concat (a b c : List Str) (n : Nat) (h0 : 0 < a.length) (ha : a.length < 2^20) (hb : b.length < 2^20) (hc : c.length < 2^20) :
  aT Tryz.prog 171 (V.aY [.yX 0 false [.row 0 false (.strs a), .row 0 false (.strs b), .row 0 false (.strs c)]]) no n (fun t hp => t = .own n ∧ hp = Hz.au [(n, some (.row 9 0 (.strs (a ++ b ++ c)) []))]) := by
 refine sV.of (nx := 0) (h0 := []) Bd.jc (by simp) ⟨_, _, rfl, rfl⟩ rfl rfl ?_
 conv => whnf
 refine aG.times 4 rfl ?_
 conv => whnf
 refine Fork.mk (fun _ => ?_) (fun q => absurd (q.symm.trans (rfl)) Bool.false_ne_true)
 conv => whnf
 repeat (refine VC.mk (by first | (omega) | (simp only [okI] at *; omega)) ?_; conv => whnf)
 refine Fork.mk (fun q => absurd (q.symm.trans (decide_eq_false (by omega))).symm Bool.false_ne_true) (fun _ => ?_)
 conv => whnf
 refine .mk (by simp only [okI] at *; omega) ?_
 conv => whnf
 refine Fork.mk (fun _ => ?_) (fun q => absurd (q.symm.trans (rfl)) Bool.false_ne_true)
 conv => whnf
 repeat (refine VC.mk (by first | (omega) | (simp only [okI] at *; omega)) ?_; conv => whnf)
 refine Fork.mk (fun q => absurd (q.symm.trans (decide_eq_false (by omega))).symm Bool.false_ne_true) (fun _ => ?_)
 conv => whnf
 refine .mk (by simp only [okI] at *; omega) ?_
 conv => whnf
 refine Fork.mk (fun _ => ?_) (fun q => absurd (q.symm.trans (rfl)) Bool.false_ne_true)
 conv => whnf
 repeat (refine VC.mk (by first | (omega) | (simp only [okI] at *; omega)) ?_; conv => whnf)
 refine Fork.mk (fun q => absurd (q.symm.trans (decide_eq_false (by omega))).symm Bool.false_ne_true) (fun _ => ?_)
 conv => whnf
 refine .mk (by simp only [okI] at *; omega) ?_
 conv => whnf
 refine Fork.mk (fun q => absurd (q.symm.trans (rfl)).symm Bool.false_ne_true) (fun _ => ?_)
 conv => whnf
 have e : (0 + (a.length : Int) + b.length + c.length) = ((a.length + b.length + c.length : Nat) : Int) := by omega
 rw [e]
 refine ah.mkRow (r := .strs []) (S.Grow (a.length + b.length + c.length) (by omega) (by omega)) ?_
 conv => whnf
 refine aG.times 4 rfl ?_
 conv => whnf
 refine Fork.mk (fun _ => ?_) (fun q => absurd (q.symm.trans (rfl)) Bool.false_ne_true)
 conv => whnf
 repeat (refine VC.mk (by first | (omega) | (simp only [nJ, nD, Rw.len, List.length_nil]; omega) | (simp only [okI] at *; omega)) ?_; conv => whnf)
 refine Fork.mk (fun _ => ?_) (fun q => absurd (q.symm.trans (rfl)) Bool.false_ne_true)
 conv => whnf
 repeat (refine VC.mk (by first | (omega) | (simp only [nJ, nD, Rw.len, List.length_append, List.length_nil]; omega) | (simp only [okI] at *; omega)) ?_; conv => whnf)
 refine Fork.mk (fun _ => ?_) (fun q => absurd (q.symm.trans (rfl)) Bool.false_ne_true)
 conv => whnf
 repeat (refine VC.mk (by first | (omega) | (simp only [nJ, nD, Rw.len, List.length_append, List.length_nil]; omega) | (simp only [okI] at *; omega)) ?_; conv => whnf)
 refine Fork.mk (fun q => absurd (q.symm.trans (rfl)).symm Bool.false_ne_true) (fun _ => ?_)
 conv => whnf
 refine kZ.one (c := n) (o := .row 9 0 (.strs (a ++ b ++ c)) []) (t := .own n) rfl rfl rfl nofun (.inr rfl) rfl (.eq rfl) ⟨rfl, rfl⟩
theorem S.ZJ (a b c : List Str) (h0 : 0 < a.length) (ha : a.length < 2^20) (hb : b.length < 2^20) (hc : c.length < 2^20) :
  wU Tryz.prog 171 (V.aY [.yX 0 false [.row 0 false (.strs a), .row 0 false (.strs b), .row 0 false (.strs c)]]) (fun n => .own n) (some ⟨9, 0, (Rw.strs (a ++ b ++ c)).aY⟩) := by
 refine ⟨rfl, fun _ => rfl, (fun ob h => by cases h; rw [iq]; intro t ht; obtain ⟨x, _, rfl⟩ := List.mem_map.1 ht; rfl), (fun ob h => by cases h; exact fun e => absurd e (by decide : (0 : Nat) ≠ fG)), fun n => (S.Concat a b c n h0 ha hb hc).mono ?_⟩
 rintro t hp ⟨rfl, rfl⟩
 refine ⟨rfl, ?_⟩
 rw [bD]; simp [oJ, OV.aF, V.aY]; rfl
theorem ah.LP {P : Program} {f : FuncId} {args : List V} {ts : List T} {h : Hz} {n ty k : Nat} {r : Rw} {K : V → Hz → Prop} {KW : Nat → V → Hz → Prop} (H : wU P f ts (fun n => .own n) (some ⟨ty, k, r.aY⟩)) (hs : T.dH (fun _ => True) h.au ts (V.aY args)) (hh : T.rD r.aY = true) (hK : K (.own n) ((n, some (.row ty k r [])) :: h)) : ah P false none f args h n K KW :=
 ⟨.inl (wU.lend H hs rfl (fun _ e => by cases e; exact hh) ⟨.own n, _, rfl, by rw [bD]; simp [oJ, OV.aF, V.aY], (fun e => by cases e), hK⟩)⟩
theorem Oc {h : Hz} {j ty : Nat} {Z : Nat → Prop} {l : List V} (hz : Z j) (q : h.get j = some (.row ty 0 .nil l)) (hf : V.dA l = true) : T.sub Z h.au (V.yX 0 false l).aH (V.own j).aH := by
 show T.sub Z h.au (.sl 0 false (V.aY l)) (.own j)
 simp only [T.sub]
 exact ⟨trivial, hz, V.iw l hf, by decide, ty, by rw [aN q]; rfl⟩
theorem VA {l : List Str} : T.rD (Rw.strs l).aY = true := by
 show T.rD (l.map eS) = true
 induction l with
 | nil => rfl
 | cons s r ih => simp only [List.map_cons, T.rD, ih]; rfl
theorem acX {h : Hz} {j i ty : Nat} {Z : Nat → Prop} {l : List Str} (hz : Z j) (q : h.get j = some (.row ty 0 (.strs l) [])) (hi : i ≤ l.length) : T.sub Z h.au (V.row 0 false (.strs (l.take i))).aH (V.rW j 0 i).aH := by
 show T.sub Z h.au (.sl 0 false ((l.take i).map eS)) (.rW j 0 i)
 simp only [T.sub]
 refine ⟨trivial, hz, ?_, by decide, ty, l.map eS, ?_, by simpa using hi, by simp [List.map_take]⟩
 ·rw [iq]; intro t ht; obtain ⟨x, _, rfl⟩ := List.mem_map.1 ht; rfl
 ·rw [aN q]; simp [OV.aF, Rw.aY, V.aY]
def allNames (p : aS) : List Str := p.states ++ p.messages ++ p.values
def Na (l : List Str) (i : Nat) : Bool := !(validName (l.getD i [])) || (l.take i).any fun x => l.getD i [] == x
def yM (p : aS) : Int := bif (List.range (allNames p).length).any (Na (allNames p)) then 2 else 0
theorem EI {n : Nat} {f : Nat → Bool} : (List.range n).any f = true ↔ ∃ i, i < n ∧ f i = true := by
 simp [List.any_eq_true]
theorem S.nT (p : aS) (h0 : 0 < p.states.length) (h1 : p.states.length < 2^20) (h2 : p.messages.length < 2^20) (h3 : p.values.length < 2^20) : aj Tryz.prog 153 [.dat (.bT p)] (.int (yM p)) := by
 have hlen : (allNames p).length < 2^30 := by simp only [allNames, List.length_append]; omega
 refine aj.of Bd.nT (by simp) rfl rfl ?_
 conv => whnf
 refine ah.LP (r := .strs (allNames p)) (S.ZJ p.states p.messages p.values h0 h1 h2 h3) (And.intro (Oc (ty := 22) trivial rfl rfl) trivial) VA ?_
 conv => whnf
 refine aG.same [3, 14, 15] (fun i : Nat => [(16, .int i)]) (fun i => i ≤ (allNames p).length ∧ (List.range i).any (Na (allNames p)) = false) (fun i => (allNames p).length - i) 0 rfl (by decide) rfl (fun _ => rfl) ⟨Nat.zero_le _, rfl⟩ ⟨⟨_, rfl, rfl⟩, trivial⟩ ?_
 conv => whnf
 refine ⟨rfl, ?_⟩
 rintro i ⟨hi, hall⟩
 conv => whnf
 refine ⟨fun h4 => ?_, fun h4 => ?_⟩
 ·have hi' : i < (allNames p).length := by simpa using h4
  conv => whnf
  repeat (refine VC.mk (by simp only [Rw.rng] at *; omega) ?_; conv => whnf)
  refine ah.pure (S.fH ((allNames p).getD i [])) rfl ?_
  conv => whnf
  repeat (refine VC.mk (by first | exact fun h => ⟨h, h⟩ | (intro h; (repeat' apply And.intro) <;> first | exact h | omega | (simp only [Rw.mD]; omega) | (simp only [Rw.rng]; omega))) ?_; conv => whnf)
  refine ah.JW (fun _ => S.slices_Contains_string ((allNames p).take i) ((allNames p).getD i []) false (by rw [List.length_take]; omega)) (fun _ => And.intro (acX (ty := 9) trivial rfl (by omega)) (And.intro (aC _) trivial)) rfl rfl ?_
  conv => whnf
  refine .mk (by intro h; rw [h]; rfl) ?_
  conv => whnf
  refine ⟨fun h5 => ?_, fun h5 => ?_⟩
  ·conv => whnf
   refine ak.int ?_
   rw [yM, EI.2 ⟨i, hi', h5⟩]; rfl
  ·conv => whnf
   refine .mk (by simp only [okI] at *; omega) ?_
   conv => whnf
   refine ⟨i + 1, ⟨by omega, ?_⟩, by omega, ⟨⟨_, rfl, rfl⟩, trivial⟩, ?_, rfl⟩
   ·rw [List.range_succ, List.any_append, hall]
    simp only [List.any_cons, List.any_nil, Bool.or_false, Bool.false_or]; exact h5
   ·repeat' (first | exact trivial | exact ⟨_, rfl, rfl⟩ | constructor)
 ·have hi' : (allNames p).length ≤ i := by simpa using h4
  have e : i = (allNames p).length := Nat.le_antisymm hi hi'
  subst e
  conv => whnf
  exact ak.int (by rw [yM, hall]; rfl)
theorem ah.acY {P : Program} {f : FuncId} {args : List V} {h : Hz} {hp0 : Hp} {n : Nat} {K : V → Hz → Prop} {KW : Nat → V → Hz → Prop} {post : T → Hp → Prop} (S : aT P f (V.aY args) hp0 n post) (e : h.au = hp0) (hK : ∀ t hp, post t hp → ∃ v h', t = v.aH ∧ hp = Hz.au h' ∧ K v h') : ah P false none f args h n K KW := by
 subst e; exact ah.heap S hK
theorem PV {i : Nat} {a b : Option OV} {r : Hz} : Hz.au ((i, a) :: (i, b) :: r) = Hz.au ((i, a) :: r) := funext fun j => by
 simp only [Hz.au, Hz.get]; cases Nat.beq i j <;> rfl
structure bg (p : aS) : Prop where
 states : p.states.length < 2^20
 messages : p.messages.length < 2^20
 values : p.values.length < 2^20
 bV : p.bV.length < 2^30
 initial : p.initial.length < 2^30
 leader : p.leader.length < 2^30
 rules : p.rules.length < 2^30
 rule : ∀ i, wJ (p.rules.getD i default)
 qQ : (p.rules.flatMap Rule.guards).length < 2^30
def qX (p : aS) (i : Nat) : Bool := !(validName (p.rules.getD i default).name) || (p.rules.take i).any fun x => x.name == (p.rules.getD i default).name
def qw (p : aS) (i : Nat) : Bool := !(uh (p.rules.getD i default).kind p.topology) || kM (p.rules.getD i default) p.topology
def vV (p : aS) (r : Rule) : Int := aQ [bW r.fr p.states.length, bW r.to p.states.length]
def XW (p : aS) (r : Rule) : Bool := decide (r.pos < 0) || decide (r.pos > 2) || (r.pos != 0 && p.topology == 3)
def fV (p : aS) (i : Nat) : Int :=
 let r := p.rules.getD i default
 let n : Int := p.states.length
 bif qX p i then 2 else bif qw p i then 6 else bif vV p r != 0 then vV p r else
 bif r.kind == 1 then aQ [wI p r.guards, dJ r.ex n, dJ r.all n, jE p r.read, jE p r.write, dJ r.send p.messages.length] else
 bif r.kind == 2 then aQ [bW r.jl n, bW r.Du n, jE p r.read, jE p r.write] else
 bif r.kind == 3 then aQ [Dx r.response n, jE p r.read, jE p r.write] else
 bif r.kind == 4 then aQ [dJ r.left n, dJ r.right n, dJ r.parent n, cu (XW p r) 1] else
 bif p.topology == 4 then aQ [bW r.jl n, bW r.Du n, cu (decide (r.direction < 3) || decide (r.direction > 4)) 1]
 else aQ [bW r.jl n, bW r.Du n, cu (decide (r.direction < 1) || decide (r.direction > 2)) 1]
theorem S.jR (p : aS) (i : Nat) (hi : i < p.rules.length) (hp : bg p) : aj Tryz.prog 155 [.dat (.bT p), .int i] (.int (fV p i)) := by
 have hr := hp.rule i
 have hp1 := hp.rules
 have hp2 := hp.states
 have hp3 := hp.messages
 refine aj.of Bd.jR (by simp) rfl rfl ?_
 conv => whnf
 repeat (refine VC.mk (by first | (simp only [Rw.mD]; omega) | (simp only [Rw.rng] at *; omega)) ?_; conv => whnf)
 refine ah.acY (S.Nq p (p.rules.getD i default) (p.rules.take i) false (by rw [List.length_take]; omega) _) PV ?_
 rintro t hp' ⟨rfl, rfl⟩
 refine ⟨.bool _, ZI p (p.rules.getD i default), rfl, rfl, ?_⟩
 conv => whnf
 refine ah.pure (S.fH (p.rules.getD i default).name) rfl ?_
 conv => whnf
 refine .mk (by intro h; rw [h]; rfl) ?_
 conv => whnf
 refine ⟨fun h1 => ?_, fun h1 => ?_⟩
 ·conv => whnf
  exact ak.int (by rw [fV, show qX p i = true from h1]; rfl)
 ·conv => whnf
  refine ah.pure (S.oO (p.rules.getD i default).kind p.topology) rfl ?_
  conv => whnf
  repeat (refine VC.mk (by first | exact id | exact fun h => ⟨h, h⟩) ?_; conv => whnf)
  refine ah.cO (fun _ => S.lM (p.rules.getD i default) p.topology hr) rfl ?_
  conv => whnf
  refine .mk (by intro h; rw [h]; rfl) ?_
  conv => whnf
  refine ⟨fun h2 => ?_, fun h2 => ?_⟩
  ·conv => whnf
   exact ak.int (by rw [fV, show qX p i = false from h1, show qw p i = true from h2]; rfl)
  ·conv => whnf
   refine ah.pure (S.bQ (p.rules.getD i default).fr p.states.length) rfl ?_
   conv => whnf
   refine ah.pure (S.bQ (p.rules.getD i default).to p.states.length) rfl ?_
   conv => whnf
   refine ah.pure (S.bJ [bW (p.rules.getD i default).fr p.states.length, bW (p.rules.getD i default).to p.states.length] true (show 2 < 2^40 by decide)) rfl ?_
   conv => whnf
   refine ⟨fun h3 => ?_, fun h3 => ?_⟩
   ·conv => whnf
    exact ak.int (by rw [fV, show qX p i = false from h1, show qw p i = false from h2, show (vV p (p.rules.getD i default) != 0) = true from h3]; rfl)
   ·conv => whnf
    refine ⟨fun h4 => ?_, fun h4 => ?_⟩
    ·conv => whnf
     refine ah.pure (S.mP p (p.rules.getD i default).guards false (by have := hr.guards; omega)) rfl ?_
     conv => whnf
     refine ah.pure (S.dM (p.rules.getD i default).ex p.states.length false (by have := hr.ex; omega)) rfl ?_
     conv => whnf
     refine ah.pure (S.dM (p.rules.getD i default).all p.states.length false (by have := hr.all; omega)) rfl ?_
     conv => whnf
     refine ah.pure (S.fE p (p.rules.getD i default).read) rfl ?_
     conv => whnf
     refine ah.pure (S.fE p (p.rules.getD i default).write) rfl ?_
     conv => whnf
     refine ah.pure (S.dM (p.rules.getD i default).send p.messages.length false (by have := hr.send; omega)) rfl ?_
     conv => whnf
     refine ah.pure (S.bJ [wI p (p.rules.getD i default).guards, dJ (p.rules.getD i default).ex p.states.length, dJ (p.rules.getD i default).all p.states.length, jE p (p.rules.getD i default).read, jE p (p.rules.getD i default).write, dJ (p.rules.getD i default).send p.messages.length] true (show 6 < 2^40 by decide)) rfl ?_
     conv => whnf
     exact ak.int (by rw [fV, show qX p i = false from h1, show qw p i = false from h2, show (vV p (p.rules.getD i default) != 0) = false from h3, h4]; rfl)
    ·conv => whnf
     refine ⟨fun h5 => ?_, fun h5 => ?_⟩
     ·conv => whnf
      refine ah.pure (S.bQ (p.rules.getD i default).jl p.states.length) rfl ?_
      conv => whnf
      refine ah.pure (S.bQ (p.rules.getD i default).Du p.states.length) rfl ?_
      conv => whnf
      refine ah.pure (S.fE p (p.rules.getD i default).read) rfl ?_
      conv => whnf
      refine ah.pure (S.fE p (p.rules.getD i default).write) rfl ?_
      conv => whnf
      refine ah.pure (S.bJ [bW (p.rules.getD i default).jl p.states.length, bW (p.rules.getD i default).Du p.states.length, jE p (p.rules.getD i default).read, jE p (p.rules.getD i default).write] true (show 4 < 2^40 by decide)) rfl ?_
      conv => whnf
      exact ak.int (by rw [fV, show qX p i = false from h1, show qw p i = false from h2, show (vV p (p.rules.getD i default) != 0) = false from h3, h4, h5]; rfl)
     ·conv => whnf
      refine ⟨fun h6 => ?_, fun h6 => ?_⟩
      ·conv => whnf
       refine ah.pure (S.jS (p.rules.getD i default).response p.states.length false (by have := hr.response; omega)) rfl ?_
       conv => whnf
       refine ah.pure (S.fE p (p.rules.getD i default).read) rfl ?_
       conv => whnf
       refine ah.pure (S.fE p (p.rules.getD i default).write) rfl ?_
       conv => whnf
       refine ah.pure (S.bJ [Dx (p.rules.getD i default).response p.states.length, jE p (p.rules.getD i default).read, jE p (p.rules.getD i default).write] true (show 3 < 2^40 by decide)) rfl ?_
       conv => whnf
       exact ak.int (by rw [fV, show qX p i = false from h1, show qw p i = false from h2, show (vV p (p.rules.getD i default) != 0) = false from h3, h4, h5, h6]; rfl)
      ·conv => whnf
       refine ⟨fun h7 => ?_, fun h7 => ?_⟩
       ·conv => whnf
        repeat (refine VC.mk (by first | exact id | (intro h; rw [h]; rfl) | (intro h; simp_all; done)) ?_; conv => whnf)
        refine ah.pure (S.dM (p.rules.getD i default).left p.states.length false (by have := hr.left; omega)) rfl ?_
        conv => whnf
        refine ah.pure (S.dM (p.rules.getD i default).right p.states.length false (by have := hr.right; omega)) rfl ?_
        conv => whnf
        refine ah.pure (S.dM (p.rules.getD i default).parent p.states.length false (by have := hr.parent; omega)) rfl ?_
        conv => whnf
        refine ah.pure (S.bM (XW p (p.rules.getD i default)) 1) rfl ?_
        conv => whnf
        refine ah.pure (S.bJ [dJ (p.rules.getD i default).left p.states.length, dJ (p.rules.getD i default).right p.states.length, dJ (p.rules.getD i default).parent p.states.length, cu (XW p (p.rules.getD i default)) 1] true (show 4 < 2^40 by decide)) rfl ?_
        conv => whnf
        exact ak.int (by rw [fV, show qX p i = false from h1, show qw p i = false from h2, show (vV p (p.rules.getD i default) != 0) = false from h3, h4, h5, h6, h7]; rfl)
       ·conv => whnf
        refine ⟨fun h8 => ?_, fun h8 => ?_⟩
        ·conv => whnf
         refine ah.pure (S.bQ (p.rules.getD i default).jl p.states.length) rfl ?_
         conv => whnf
         refine ah.pure (S.bQ (p.rules.getD i default).Du p.states.length) rfl ?_
         conv => whnf
         repeat (refine VC.mk (by first | exact id | exact fun h => ⟨h, h⟩ | (intro h; rw [h]; rfl)) ?_; conv => whnf)
         refine ah.pure (S.bM (decide ((p.rules.getD i default).direction < 3) || decide ((p.rules.getD i default).direction > 4)) 1) rfl ?_
         conv => whnf
         refine ah.pure (S.bJ [bW (p.rules.getD i default).jl p.states.length, bW (p.rules.getD i default).Du p.states.length, cu (decide ((p.rules.getD i default).direction < 3) || decide ((p.rules.getD i default).direction > 4)) 1] true (show 3 < 2^40 by decide)) rfl ?_
         conv => whnf
         exact ak.int (by rw [fV, show qX p i = false from h1, show qw p i = false from h2, show (vV p (p.rules.getD i default) != 0) = false from h3, h4, h5, h6, h7, h8]; rfl)
        ·conv => whnf
         refine ah.pure (S.bQ (p.rules.getD i default).jl p.states.length) rfl ?_
         conv => whnf
         refine ah.pure (S.bQ (p.rules.getD i default).Du p.states.length) rfl ?_
         conv => whnf
         repeat (refine VC.mk (by first | exact id | exact fun h => ⟨h, h⟩ | (intro h; rw [h]; rfl)) ?_; conv => whnf)
         refine ah.pure (S.bM (decide ((p.rules.getD i default).direction < 1) || decide ((p.rules.getD i default).direction > 2)) 1) rfl ?_
         conv => whnf
         refine ah.pure (S.bJ [bW (p.rules.getD i default).jl p.states.length, bW (p.rules.getD i default).Du p.states.length, cu (decide ((p.rules.getD i default).direction < 1) || decide ((p.rules.getD i default).direction > 2)) 1] true (show 3 < 2^40 by decide)) rfl ?_
         conv => whnf
         exact ak.int (by rw [fV, show qX p i = false from h1, show qw p i = false from h2, show (vV p (p.rules.getD i default) != 0) = false from h3, h4, h5, h6, h7, h8]; rfl)
def wH (g : y8) : List y8 → Nat → Int
 | [], _ => -1
 | x :: r, i => bif g == x then (i : Int) else wH g r (i + 1)
theorem PE {g : y8} {l : List y8} {i : Nat} : decide (0 ≤ wH g l i) = l.any fun x => g == x := by
 have : ∀ {l : List y8} {i : Nat}, 0 ≤ wH g l i ↔ (l.any fun x => g == x) = true := by
  intro l
  induction l with
  | nil => intro i; simp [wH]
  | cons x r ih =>
   intro i
   rw [List.any_cons, Bool.or_eq_true, ← ih (i := i + 1)]
   show (0 : Int) ≤ (bif g == x then (i : Int) else wH g r (i + 1)) ↔ _
   generalize (g == x) = b
   cases b <;> simp
 rw [Bool.eq_iff_iff, decide_eq_true_eq]; exact this
theorem S.X5 (l : List y8) (g : y8) (f : Bool) (hl : l.length < 2^40) : aj Tryz.prog 189 [.row 7 f (.qQ l), .dat (.Q9 g)] (.int (wH g l 0)) := by
 refine aj.of Bd.dU (by simp) rfl rfl ?_
 conv => whnf
 refine aG.same [0, 3, 6, 7] (fun i : Nat => [(8, .int i)]) (fun i => i ≤ l.length ∧ wH g l 0 = wH g (l.drop i) i) (fun i => l.length - i) 0 rfl (by decide) rfl (fun _ => rfl) ⟨by omega, by simp⟩ ⟨⟨_, rfl, rfl⟩, trivial⟩ ?_
 conv => whnf
 refine ⟨rfl, ?_⟩
 rintro i ⟨hi, hall⟩
 conv => whnf
 refine ⟨fun h3 => ?_, fun h3 => ?_⟩
 ·have hi' : i < l.length := by simpa using h3
  rw [aZ default hi'] at hall
  simp only [wH] at hall
  conv => whnf
  refine .mk (by simp only [Rw.rng] at *; first | omega | simp_all <;> omega) ?_
  conv => whnf
  refine ⟨fun h4 => ?_, fun h4 => ?_⟩
  ·conv => whnf
   refine ak.int ?_
   have h4' : (g == l.getD i default) = true := h4
   rw [hall, h4']; rfl
  ·conv => whnf
   refine .mk (by simp only [okI] at *; first | omega | simp_all <;> omega) ?_
   conv => whnf
   refine ⟨i + 1, ⟨by omega, ?_⟩, by omega, ⟨⟨_, rfl, rfl⟩, trivial⟩, ?_, rfl⟩
   ·have h4' : (g == l.getD i default) = false := h4
    rw [hall, h4']; rfl
   ·repeat' (first | exact trivial | exact ⟨_, rfl, rfl⟩ | constructor)
 ·conv => whnf
  refine ak.int ?_
  have hi' : l.length ≤ i := by simpa using h3
  rw [hall, List.drop_eq_nil_of_le hi']; rfl
theorem S.PW (l : List y8) (g : y8) (f : Bool) (hl : l.length < 2^40) : aj Tryz.prog 181 [.row 7 f (.qQ l), .dat (.Q9 g)] (.bool (l.any fun x => g == x)) := by
 refine aj.of Bd.dG (by simp) rfl rfl ?_
 conv => whnf
 refine ah.pure (S.X5 l g f hl) rfl ?_
 conv => whnf
 exact ak.bool PE.symm
theorem XT {h : Hz} {j : Nat} {Z : Nat → Prop} {l : List y8} (hz : Z j) (q : h.get j = some (.row 208 7 (.qQ l) [])) : T.sub Z h.au (V.row 7 false (.qQ l)).aH (V.own j).aH := by
 show T.sub Z h.au (.sl 7 false (l.map OX)) (.own j)
 simp only [T.sub]
 refine ⟨trivial, hz, ?_, by decide, 208, ?_⟩
 ·rw [iq]; intro t ht; obtain ⟨x, _, rfl⟩ := List.mem_map.1 ht; rfl
 ·have := aN q
  rw [this]; simp [OV.aF, Rw.aY, V.aY]
theorem zZ {α β : Type} {f : β → α → β} {b : β} {l : List α} {i : Nat} {d : α} (h : i < l.length) : (l.take (i + 1)).foldl f b = f ((l.take i).foldl f b) (l.getD i d) := by
 rw [List.take_add_one, List.foldl_append]
 simp [List.getElem?_eq_getElem h]
theorem ak.acT {h : Hz} {j : Nat} {l : List y8} (q : h.get j = some (.row 208 7 (.qQ l) [])) : ak (.row 7 false (.qQ l)) (.own j) h := ⟨XT trivial q⟩
def Gs (acc : List y8) (g : y8) : List y8 := bif acc.any (fun x => g == x) then acc else acc ++ [g]
def xW (l : List Rule) : List y8 := (l.flatMap Rule.guards).foldl Gs []
theorem X6 {acc : List y8} {g : y8} : (Gs acc g).length ≤ acc.length + 1 := by
 unfold Gs; cases acc.any (fun x => g == x) <;> simp
theorem PX : ∀ {l acc : List y8}, (l.foldl Gs acc).length ≤ acc.length + l.length := by
 intro l
 induction l with
 | nil => intro acc; simp
 | cons g r ih =>
  intro acc
  have := ih (acc := Gs acc g)
  have h2 := X6 (acc := acc) (g := g)
  simp only [List.foldl_cons, List.length_cons]; omega
abbrev rowT (l : List y8) : OV := .row 208 7 (.qQ l) []
def xX (p : aS) (i k : Nat) : List y8 := ((p.rules.getD i default).guards.take k).foldl Gs (xW (p.rules.take i))
theorem PG (p : aS) (hp : bg p) (i k : Nat) (_hi : i < p.rules.length) : (xX p i k).length < 2^31 := by
 have h1 := PX (l := (p.rules.getD i default).guards.take k) (acc := xW (p.rules.take i))
 have h2 := PX (l := (p.rules.take i).flatMap Rule.guards) (acc := [])
 have h3 := (hp.rule i).guards
 have h4 : ((p.rules.take i).flatMap Rule.guards).length ≤ (p.rules.flatMap Rule.guards).length := by
  conv => rhs; rw [← List.take_append_drop i p.rules, List.flatMap_append, List.length_append]
  omega
 have h5 := hp.qQ
 have h6 : ((p.rules.getD i default).guards.take k).length ≤ (p.rules.getD i default).guards.length := by simp [List.length_take]; omega
 unfold xX
 unfold xW at h1 ⊢
 simp only [List.length_nil, Nat.zero_add] at h2
 omega
theorem Lr (p : aS) {i : Nat} (hi : i < p.rules.length) : xW (p.rules.take (i + 1)) = xX p i (p.rules.getD i default).guards.length := by
 unfold xX
 rw [List.take_of_length_le (Nat.le_refl _)]
 unfold xW
 rw [List.take_add_one, List.flatMap_append, List.foldl_append]
 simp [List.getElem?_eq_getElem hi]
theorem S.je (p : aS) (hp : bg p) : aj Tryz.prog 156 [.dat (.bT p)] (.row 7 false (.qQ (xW p.rules))) := by
 have hp1 := hp.rules
 refine aj.of Bd.je (by simp) rfl rfl ?_
 conv => whnf
 refine aG.nil 3 208 7 (by rfl) rfl rfl rfl ?_
 refine aG.objs 1 [9, 10] (fun i : Nat => [(11, .int i), (3, .own 0)]) (fun i => [(0, rowT (xW (p.rules.take i)))]) (fun i => i ≤ p.rules.length) (fun i => p.rules.length - i) 0 [7] rfl (by decide) (fun _ => rfl) (Nat.zero_le _) ?_ ?_ ?_
 ·exact ⟨⟨_, rfl, .eq rfl⟩, ⟨_, rfl, .eq rfl⟩, trivial⟩
 ·exact ⟨⟨rfl, nofun, rfl, rfl, rfl, _, rfl, rfl, rfl, bC.of_eq rfl⟩, trivial⟩
 conv => whnf
 refine ⟨⟨⟨_, rfl, .eq rfl⟩, ⟨_, rfl, .eq rfl⟩, trivial⟩, rfl, ?_⟩
 rintro i hi
 conv => whnf
 refine ⟨fun h3 => ?_, fun h3 => ?_⟩
 ·have hi' : i < p.rules.length := by simpa using h3
  conv => whnf
  refine .mk (by simp only [Rw.rng] at *; first | omega | simp_all <;> omega) ?_
  conv => whnf
  refine aG.objs 1 [9, 10, 11, 16, 17] (fun k : Nat => [(18, .int k), (3, .own 0)]) (fun k => [(0, rowT (xX p i k))]) (fun k => k ≤ (p.rules.getD i default).guards.length) (fun k => (p.rules.getD i default).guards.length - k) 0 [0] rfl (by decide) (fun _ => rfl) (Nat.zero_le _) ?_ ?_ ?_
  ·exact ⟨⟨_, rfl, .eq rfl⟩, ⟨_, rfl, .eq rfl⟩, trivial⟩
  ·exact ⟨⟨rfl, nofun, rfl, rfl, rfl, _, rfl, rfl, rfl, bC.of_eq rfl⟩, trivial⟩
  conv => whnf
  refine ⟨⟨⟨_, rfl, .eq rfl⟩, ⟨_, rfl, .eq rfl⟩, ⟨_, rfl, .eq rfl⟩, ⟨_, rfl, .eq rfl⟩, ⟨_, rfl, .eq rfl⟩, trivial⟩, rfl, ?_⟩
  rintro k hk
  have hacc := PG p hp i k hi'
  have hg := (hp.rule i).guards
  conv => whnf
  refine ⟨fun h4 => ?_, fun h4 => ?_⟩
  ·have hk' : k < (p.rules.getD i default).guards.length := by simpa using h4
   have hst : xX p i (k + 1) = Gs (xX p i k) ((p.rules.getD i default).guards.getD k default) := zZ hk'
   conv => whnf
   refine .mk (by simp only [Rw.rng] at *; first | omega | simp_all <;> omega) ?_
   conv => whnf
   refine ah.lend (S.PW (xX p i k) ((p.rules.getD i default).guards.getD k default) false (by omega)) (And.intro (XT trivial rfl) (And.intro (aC _) trivial)) rfl rfl ?_
   conv => whnf
   refine ⟨fun h5 => ?_, fun h5 => ?_⟩
   ·conv => whnf
    repeat (refine VC.mk (by first | (show ((xX p i k).length + (0 + 1)) * 48 ≤ 140737488355328 ∧ (xX p i k).length + (0 + 1) ≤ 1152921504606846976; omega) | (simp only [okI] at *; first | omega | simp_all <;> omega)) ?_; conv => whnf)
    have h5' : ((xX p i k).any fun x => (p.rules.getD i default).guards.getD k default == x) = false := by simpa using h5
    refine ⟨k + 1, [13], by omega, by omega, ⟨⟨_, rfl, .eq rfl⟩, ⟨_, rfl, .eq rfl⟩, trivial⟩, ⟨⟨_, rfl, .eq rfl⟩, ⟨_, rfl, .eq rfl⟩, ⟨_, rfl, .eq rfl⟩, ⟨_, rfl, .eq rfl⟩, ⟨_, rfl, .eq rfl⟩, trivial⟩, ⟨rfl, nofun, rfl, rfl, rfl, _, rfl, rfl, rfl, bC.of_eq ?_⟩, trivial⟩
    rw [hst, Gs, h5']
    rfl
   ·conv => whnf
    refine .mk (by simp only [okI] at *; first | omega | simp_all <;> omega) ?_
    conv => whnf
    have h5' : ((xX p i k).any fun x => (p.rules.getD i default).guards.getD k default == x) = true := by simpa using h5
    refine ⟨k + 1, [0], by omega, by omega, ⟨⟨_, rfl, .eq rfl⟩, ⟨_, rfl, .eq rfl⟩, trivial⟩, ⟨⟨_, rfl, .eq rfl⟩, ⟨_, rfl, .eq rfl⟩, ⟨_, rfl, .eq rfl⟩, ⟨_, rfl, .eq rfl⟩, ⟨_, rfl, .eq rfl⟩, trivial⟩, ⟨rfl, nofun, rfl, rfl, rfl, _, rfl, rfl, rfl, bC.of_eq ?_⟩, trivial⟩
    rw [hst, Gs, h5']; rfl
  ·have hk' : (p.rules.getD i default).guards.length ≤ k := by simpa using h4
   have e : k = (p.rules.getD i default).guards.length := Nat.le_antisymm hk hk'
   subst e
   conv => whnf
   refine .mk (by simp only [okI] at *; first | omega | simp_all <;> omega) ?_
   conv => whnf
   refine ⟨i + 1, [0], by omega, by omega, ⟨⟨_, rfl, .eq rfl⟩, ⟨_, rfl, .eq rfl⟩, trivial⟩, ⟨⟨_, rfl, .eq rfl⟩, ⟨_, rfl, .eq rfl⟩, trivial⟩, ⟨rfl, nofun, rfl, rfl, rfl, _, rfl, rfl, rfl, bC.of_eq ?_⟩, trivial⟩
   rw [Lr p hi']
 ·have hi' : p.rules.length ≤ i := by simpa using h3
  rw [List.take_of_length_le hi']
  conv => whnf
  exact ak.acT rfl
def ug (p : aS) : Bool := decide (p.topology < 1) || decide (p.topology > 4) || decide (p.fault < 0) || decide (p.fault > 3)
def uX (p : aS) : Bool := decide ((p.states.length : Int) > 6) || decide ((p.messages.length : Int) > 3) || decide ((p.values.length : Int) > 3) || decide ((p.bV.length : Int) > 4) || decide ((p.rules.length : Int) > 8)
def PI (p : aS) : Bool := (!(p.topology == 1) && (decide ((p.messages.length : Int) > 0) || decide ((p.values.length : Int) > 0) || decide ((p.bV.length : Int) > 0) || p.fault != 0)) || ((p.topology == 1) && decide ((p.leader.length : Int) > 0))
def wY (p : aS) : Int := aQ [dJ p.initial p.states.length, cu ((p.initial.length : Int) == 0) 1, dJ p.leader p.states.length]
def BO (p : aS) : Int := aQ ((List.range p.rules.length).map (fV p))
def bI (p : aS) : Int :=
 bif !(validName p.name) then 2 else bif ug p then 1 else bif (p.states.length : Int) == 0 then 1 else bif uX p then 4 else
 bif yM p != 0 then yM p else bif PI p then 1 else
 bif p.bV.any (fun l => !(Px l)) then 4 else
 bif wY p != 0 then wY p else
 bif BO p != 0 then BO p else cu (decide (((xW p.rules).length : Int) > 3)) 4
theorem Jp {n i : Nat} {f : Nat → Int} (h : i < n) : ((List.range n).drop i).map f = f i :: ((List.range n).drop (i + 1)).map f := by
 rw [List.drop_eq_getElem_cons (by simpa using h)]; simp
theorem S.iP (p : aS) (hp : bg p) : aj Tryz.prog 126 [.dat (.bT p)] (.int (bI p)) := by
 have g1 := hp.states; have g2 := hp.messages; have g3 := hp.values; have g4 := hp.bV; have g5 := hp.initial; have g6 := hp.leader; have g7 := hp.rules
 refine aj.of Bd.iP (by simp) rfl rfl ?_
 conv => whnf
 refine ah.pure (S.fH p.name) rfl ?_
 conv => whnf
 refine ⟨fun h1 => ?_, fun h1 => ?_⟩
 ·conv => whnf
  exact ak.int (by rw [bI, h1]; rfl)
 conv => whnf
 repeat (refine VC.mk (by first | exact id | (intro h; rw [h]; rfl)) ?_; conv => whnf)
 refine ⟨fun h2 => ?_, fun h2 => ?_⟩
 ·conv => whnf
  exact ak.int (by rw [bI, h1, show ug p = true from h2]; rfl)
 conv => whnf
 refine ⟨fun h3 => ?_, fun h3 => ?_⟩
 ·conv => whnf
  exact ak.int (by rw [bI, h1, show ug p = false from h2, h3]; rfl)
 conv => whnf
 repeat (refine VC.mk (by first | exact id | (intro h; rw [h]; rfl)) ?_; conv => whnf)
 refine ⟨fun h4 => ?_, fun h4 => ?_⟩
 ·conv => whnf
  exact ak.int (by rw [bI, h1, show ug p = false from h2, h3, show uX p = true from h4]; rfl)
 conv => whnf
 have h0 : 0 < p.states.length := by
  rcases Nat.eq_zero_or_pos p.states.length with e | e
  ·rw [e] at h3; exact absurd h3 (by decide)
  ·exact e
 refine ah.pure (S.nT p h0 g1 g2 g3) rfl ?_
 conv => whnf
 refine ⟨fun h5 => ?_, fun h5 => ?_⟩
 ·conv => whnf
  exact ak.int (by rw [bI, h1, show ug p = false from h2, h3, show uX p = false from h4, h5]; rfl)
 conv => whnf
 repeat (refine VC.mk (by first | exact id | (intro h; rw [h]; rfl) | (intro h; simp_all; done)) ?_; conv => whnf)
 refine ⟨fun h6 => ?_, fun h6 => ?_⟩
 ·conv => whnf
  exact ak.int (by rw [bI, h1, show ug p = false from h2, h3, show uX p = false from h4, h5, show PI p = true from h6]; rfl)
 conv => whnf
 refine aG.same [1, 4, 111, 112] (fun i : Nat => [(113, .int i)]) (fun i => i ≤ p.bV.length ∧ (p.bV.take i).any (fun l => !(Px l)) = false) (fun i => p.bV.length - i) 0 rfl (by decide) rfl (fun _ => rfl) ⟨by omega, by simp⟩ ⟨⟨_, rfl, rfl⟩, trivial⟩ ?_
 conv => whnf
 refine ⟨rfl, ?_⟩
 rintro i ⟨hi, hall⟩
 conv => whnf
 refine ⟨fun h7 => ?_, fun h7 => ?_⟩
 ·have hi' : i < p.bV.length := by simpa using h7
  conv => whnf
  refine .mk (by simp only [Rw.rng] at *; omega) ?_
  conv => whnf
  refine ah.pure (S.jw (p.bV.getD i default)) rfl ?_
  conv => whnf
  refine ⟨fun h8 => ?_, fun h8 => ?_⟩
  ·conv => whnf
   exact ak.int (by rw [bI, h1, show ug p = false from h2, h3, show uX p = false from h4, h5, show PI p = false from h6, fZ (d := default) hi' h8]; rfl)
  ·conv => whnf
   refine .mk (by simp only [okI] at *; omega) ?_
   conv => whnf
   refine ⟨i + 1, ⟨by omega, ?_⟩, by omega, ⟨⟨_, rfl, rfl⟩, trivial⟩, ?_, rfl⟩
   ·rw [jF (d := default) hi' hall]; exact h8
   ·repeat' (first | exact trivial | exact ⟨_, rfl, rfl⟩ | constructor)
 have hi' : p.bV.length ≤ i := by simpa using h7
 rw [List.take_of_length_le hi'] at hall
 conv => whnf
 refine ah.pure (S.dM p.initial p.states.length false (by omega)) rfl ?_
 conv => whnf
 refine ah.pure (S.bM ((p.initial.length : Int) == 0) 1) rfl ?_
 conv => whnf
 refine ah.pure (S.dM p.leader p.states.length false (by omega)) rfl ?_
 conv => whnf
 refine ah.pure (S.bJ [dJ p.initial p.states.length, cu ((p.initial.length : Int) == 0) 1, dJ p.leader p.states.length] true (show 3 < 2^40 by decide)) rfl ?_
 conv => whnf
 refine ⟨fun h9 => ?_, fun h9 => ?_⟩
 ·conv => whnf
  exact ak.int (by rw [bI, h1, show ug p = false from h2, h3, show uX p = false from h4, h5, show PI p = false from h6, hall, show (wY p != 0) = true from h9]; rfl)
 conv => whnf
 refine aG.same [1, 140, 141] (fun i : Nat => [(142, .int i)]) (fun i => i ≤ p.rules.length ∧ BO p = aQ (((List.range p.rules.length).drop i).map (fV p))) (fun i => p.rules.length - i) 0 rfl (by decide) rfl (fun _ => rfl) ⟨by omega, by simp [BO]⟩ ⟨⟨_, rfl, rfl⟩, trivial⟩ ?_
 conv => whnf
 refine ⟨rfl, ?_⟩
 rintro i ⟨hi, hr⟩
 conv => whnf
 refine ⟨fun h10 => ?_, fun h10 => ?_⟩
 ·have hi' : i < p.rules.length := by simpa using h10
  rw [Jp hi'] at hr
  simp only [aQ] at hr
  conv => whnf
  refine ah.pure (S.jR p i hi' hp) rfl ?_
  conv => whnf
  refine ⟨fun h11 => ?_, fun h11 => ?_⟩
  ·conv => whnf
   have abP : fV p i ≠ 0 := Gh h11
   rw [if_neg abP] at hr
   exact ak.int (by rw [bI, h1, show ug p = false from h2, h3, show uX p = false from h4, h5, show PI p = false from h6, hall, show (wY p != 0) = false from h9, hr, h11]; rfl)
  ·conv => whnf
   refine .mk (by simp only [okI] at *; omega) ?_
   conv => whnf
   have abP : fV p i = 0 := uZ h11
   rw [if_pos abP] at hr
   refine ⟨i + 1, ⟨by omega, hr⟩, by omega, ⟨⟨_, rfl, rfl⟩, trivial⟩, ?_, rfl⟩
   repeat' (first | exact trivial | exact ⟨_, rfl, rfl⟩ | constructor)
 have hi' : p.rules.length ≤ i := by simpa using h10
 rw [List.drop_eq_nil_of_le (by simpa using hi')] at hr
 conv => whnf
 refine ah.pure (S.je p hp) rfl ?_
 conv => whnf
 refine ah.pure (S.bM (decide (((xW p.rules).length : Int) > 3)) 4) rfl ?_
 conv => whnf
 exact ak.int (by rw [bI, h1, show ug p = false from h2, h3, show uX p = false from h4, h5, show PI p = false from h6, hall, show (wY p != 0) = false from h9, hr]; rfl)
theorem ak.eqv {a b : V} {h : Hz} (e : a.aH = b.aH) : ak a b h := ⟨by rw [e]; exact aC _⟩
def PL (acc : Bool) (r : Rule) : Bool := acc && (r.kind == 1) && decide (r.fr < r.to) && ((r.ex.length : Int) == 0) && ((r.all.length : Int) == 0)
def Vw (acc : Bool) (r : Rule) : Bool := acc || decide ((r.all.length : Int) > 0)
def tX (p : aS) : Bool := (p.topology == 1) && (p.fault == 0) && ((p.messages.length : Int) == 0) && ((p.bV.length : Int) == 0)
structure Cls where
 Q9 : Bool
 cover : Bool
 word : Bool
 tree : Bool
 monadic : Bool
def eF (p : aS) : Cls :=
 ⟨(p.topology == 1) && ((p.values.length : Int) == 0) && p.rules.foldl PL true, tX p && !(p.rules.foldl Vw false), (p.topology == 2) || (p.topology == 3), p.topology == 4, tX p && decide ((p.states.length : Int) ≤ 4)⟩
def acU (c : Cls) : V := .agg [.bool c.Q9, .bool c.cover, .bool c.word, .bool c.tree, .bool c.monadic]
def Dz : Cls := ⟨false, false, false, false, false⟩
def FH (p : aS) : V := .fQ [acU (bif bI p != 0 then Dz else eF p), .int (bI p)]
theorem S.iQ (p : aS) (hp : bg p) : aj Tryz.prog 104 [.dat (.bT p)] (FH p) := by
 have g1 := hp.states; have g2 := hp.messages; have g3 := hp.values; have g4 := hp.bV; have g7 := hp.rules
 refine aj.of Bd.iQ (by simp) rfl rfl ?_
 conv => whnf
 refine ah.pure (S.iP p hp) rfl ?_
 conv => whnf
 refine ⟨fun h1 => ?_, fun h1 => ?_⟩
 ·conv => whnf
  refine ak.eqv ?_
  rw [FH, h1]; rfl
 have h1' : bI p = 0 := uZ h1
 conv => whnf
 refine aG.same [1, 2, 3, 18, 19] (fun i : Nat => [(20, .int i), (5, .bool ((p.rules.take i).foldl PL true)), (6, .bool ((p.rules.take i).foldl Vw false))]) (fun i => i ≤ p.rules.length) (fun i => p.rules.length - i) 0 rfl (by decide) rfl (fun _ => rfl) (Nat.zero_le _) ⟨⟨_, rfl, rfl⟩, ⟨_, rfl, rfl⟩, ⟨_, rfl, rfl⟩, trivial⟩ ?_
 conv => whnf
 refine ⟨rfl, ?_⟩
 rintro i hi
 have g8 := hp.rule i
 have g9 := g8.ex; have g10 := g8.all
 conv => whnf
 refine ⟨fun h7 => ?_, fun h7 => ?_⟩
 ·have hi' : i < p.rules.length := by simpa using h7
  conv => whnf
  repeat (refine VC.mk (by first | exact id | exact fun h => ⟨h, h⟩ | (intro h; rw [h]; rfl) | (simp only [okI, Rw.rng] at *; omega)) ?_; conv => whnf)
  refine ⟨i + 1, by omega, by omega, ⟨⟨_, rfl, rfl⟩, ⟨_, rfl, ?_⟩, ⟨_, rfl, ?_⟩, trivial⟩, ?_, rfl⟩
  ·rw [zZ (d := default) hi']; rfl
  ·rw [zZ (d := default) hi']; rfl
  ·repeat' (first | exact trivial | exact ⟨_, rfl, rfl⟩ | constructor)
 have hi' : p.rules.length ≤ i := by simpa using h7
 rw [List.take_of_length_le hi']
 conv => whnf
 repeat (refine VC.mk (by first | exact id | (intro h; rw [h]; rfl)) ?_; conv => whnf)
 refine ak.eqv ?_
 rw [FH, h1']
 rfl
def lV (r : Rule) (t : Int) : Bool :=
 bif !(r.kind == 1) && (decide ((r.guards.length : Int) > 0) || decide ((r.ex.length : Int) > 0) || decide ((r.all.length : Int) > 0) || decide ((r.send.length : Int) > 0)) then true else
 bif !(r.kind == 1) && !(r.kind == 2) && !(r.kind == 3) && (r.read != -1 || r.write != -1) then true else
 bif !(r.kind == 2) && !(r.kind == 5) && (r.jl != 0 || r.Du != 0) then true else
 bif (!(r.kind == 3) && decide ((r.response.length : Int) > 0)) || (!(r.kind == 5) && r.direction != 0) then true else
 bif !(r.kind == 4) && (r.pos != 0 || decide ((r.left.length : Int) > 0) || decide ((r.right.length : Int) > 0)) then true else
 decide ((r.parent.length : Int) > 0) && !((r.kind == 4) && (t == 4))
theorem gt0 {n : Nat} : decide ((n : Int) > 0) = !(n == 0) := by
 cases n with
 | zero => rfl
 | succ n => rw [decide_eq_true (by omega)]; rfl
theorem adB (a b c d e f g h : Nat) : decide ((a : Int) + b + c + d + e + f + g + h > 0) = (!(a == 0) || !(b == 0) || !(c == 0) || !(d == 0) || !(e == 0) || !(f == 0) || !(g == 0) || !(h == 0)) := by
 rw [Bool.eq_iff_iff]
 simp only [decide_eq_true_eq, Bool.or_eq_true, Bool.not_eq_true', beq_eq_false_iff_ne, ne_eq]
 omega
theorem zo {r : Rule} {t : Int} (h : 1 ≤ r.kind ∧ r.kind ≤ 5) : lV r t = kM r t := by
 have hk : r.kind = 1 ∨ r.kind = 2 ∨ r.kind = 3 ∨ r.kind = 4 ∨ r.kind = 5 := by omega
 simp only [lV, kM, Dj, gt0, adB, bne]
 generalize (r.guards.length == 0) = g1
 generalize (r.ex.length == 0) = g2
 generalize (r.all.length == 0) = g3
 generalize (r.send.length == 0) = g4
 generalize (r.response.length == 0) = g5
 generalize (r.left.length == 0) = g6
 generalize (r.right.length == 0) = g7
 generalize (r.parent.length == 0) = g8
 generalize (r.read == -1) = g9
 generalize (r.write == -1) = g10
 generalize (r.jl == 0) = g11
 generalize (r.Du == 0) = g12
 generalize (r.direction == 0) = g13
 generalize (r.pos == 0) = g14
 rcases hk with hk | hk | hk | hk | hk <;> rw [hk] <;>
  (first
   | (simp; done)
   | (cases (t == 4) <;> simp <;> grind)
   | (simp; grind))
end Go.Proofs.YtifbibbicplneaaGreatDoor
