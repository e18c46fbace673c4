/-
 A part of the proof. No condition.
-/
import Derived.Test.YtifbibbicplneaaGreatDoorRb
import Derived.Test.YtifbibbicplneaaGreatDoorLf
namespace Go.Proofs.YtifbibbicplneaaGreatDoor
open Go.Ab Go.Proofs
set_option maxRecDepth 100000
def Dt (s : Int) : List Int → Nat → Int
 | [], _ => -1
 | x :: r, i => bif s == x then (i : Int) else Dt s r (i + 1)
theorem VR {s : Int} {l : List Int} : decide (0 ≤ Dt s l 0) = l.any fun x => s == x := by
 have : ∀ {l : List Int} {i : Nat}, 0 ≤ Dt s l i ↔ (l.any fun x => s == x) = true := by
  intro l
  induction l with
  | nil => intro i; simp [Dt]
  | cons x r ih =>
   intro i
   rw [List.any_cons, Bool.or_eq_true, ← ih (i := i + 1)]
   show (0 : Int) ≤ (bif s == x then (i : Int) else Dt s r (i + 1)) ↔ _
   generalize (s == x) = b
   cases b <;> simp
 rw [Bool.eq_iff_iff, decide_eq_true_eq]; exact this
theorem S.slices_Index_int (l : List Int) (s : Int) (f : Bool) (hl : l.length < 2^40) : aj Tryz.prog 143 [.row 0 f (.ints l), .int s] (.int (Dt s l 0)) := by
 refine aj.of Bd.mZ (by simp) rfl rfl ?_
 conv => whnf
 refine aG.same [0, 1, 6, 7] (fun i : Nat => [(8, .int i)]) (fun i => i ≤ l.length ∧ Dt s l 0 = Dt s (l.drop i) i) (fun i => l.length - i) 0 rfl (by decide) rfl (fun _ => rfl) ⟨by omega, by simp⟩ ⟨⟨_, rfl, rfl⟩, trivial⟩ ?_
 conv => whnf
 refine ⟨rfl, ?_⟩
 rintro i ⟨hi, hall⟩
 conv => whnf
 refine ⟨fun h3 => ?_, fun h3 => ?_⟩
 ·have hi' : i < l.length := by simpa using h3
  rw [aZ 0 hi'] at hall
  simp only [Dt] at hall
  conv => whnf
  refine .mk (by simp only [Rw.rng] at *; first | omega | simp_all <;> omega) ?_
  conv => whnf
  refine ⟨fun h4 => ?_, fun h4 => ?_⟩
  ·conv => whnf
   refine ak.int ?_
   have h4' : (s == l.getD i 0) = true := h4
   rw [hall, h4']; rfl
  ·conv => whnf
   refine .mk (by simp only [okI] at *; first | omega | simp_all <;> omega) ?_
   conv => whnf
   refine ⟨i + 1, ⟨by omega, ?_⟩, by omega, ⟨⟨_, rfl, rfl⟩, trivial⟩, ?_, rfl⟩
   ·have h4' : (s == l.getD i 0) = false := h4
    rw [hall, h4']; rfl
   ·repeat' (first | exact trivial | exact ⟨_, rfl, rfl⟩ | constructor)
 ·conv => whnf
  refine ak.int ?_
  have hi' : l.length ≤ i := by simpa using h3
  rw [hall, List.drop_eq_nil_of_le hi']; rfl
def JZ (l : List Int) (s : Int) : Bool := l.any fun x => s == x
theorem S.slices_Contains_int (l : List Int) (s : Int) (f : Bool) (hl : l.length < 2^40) : aj Tryz.prog 100 [.row 0 f (.ints l), .int s] (.bool (JZ l s)) := by
 refine aj.of Bd.kR (by simp) rfl rfl ?_
 conv => whnf
 refine ah.pure (S.slices_Index_int l s f hl) rfl ?_
 conv => whnf
 exact ak.bool VR.symm
def rG (n : Nat) (l : List Int) : Prop := ∀ q ∈ l, 0 ≤ q ∧ q < n
def TM (c l : List Int) : Bool := (List.range c.length).any fun i => decide (c.getD i 0 > 0) && !(JZ l i)
def BM (ex c : List Int) (i : Nat) : Bool := ((ex.length : Int) == 0) || (List.range i).any fun j => !(c.getD j 0 == 0) && JZ ex j
def wK (al c : List Int) (i : Nat) : Bool := (List.range i).any fun j => !(c.getD j 0 == 0) && (decide ((al.length : Int) > 0) && !(JZ al j))
def wL (r : Rule) (c : List Int) : Bool := !(wK r.all c c.length) && BM r.ex c c.length
theorem Qb {ex c : List Int} {i : Nat} : BM ex c (i + 1) = (BM ex c i || (!(c.getD i 0 == 0) && JZ ex i)) := by
 simp only [BM, List.range_succ, List.any_append, List.any_cons, List.any_nil, Bool.or_false, Bool.or_assoc]
theorem Qc {al c : List Int} {i : Nat} : wK al c (i + 1) = (wK al c i || (!(c.getD i 0 == 0) && (decide ((al.length : Int) > 0) && !(JZ al i)))) := by
 simp only [wK, List.range_succ, List.any_append, List.any_cons, List.any_nil, Bool.or_false]
theorem VT {al c : List Int} {i : Nat} (hi : i < c.length) (h0 : (c.getD i 0 == 0) = false) (h : (decide ((al.length : Int) > 0) && !(JZ al i)) = true) : wK al c c.length = true :=
 EI.2 ⟨i, hi, by rw [h0, h]; rfl⟩
structure yg (n : Nat) (r : Rule) : Prop where
 src : 0 ≤ r.fr ∧ r.fr < n
 dst : 0 ≤ r.to ∧ r.to < n
 ac3 : 0 ≤ r.jl ∧ r.jl < n
 ac4 : 0 ≤ r.Du ∧ r.Du < n
 rsp : r.kind = 3 → r.response.length = n ∧ rG n r.response
 exs : rG n r.ex
def zl (c : List Int) : Prop := ∀ x ∈ c, 0 ≤ x ∧ x ≤ 1048576
def lS (c : List Int) (i d : Int) : List Int := c.set i.toNat (c.getD i.toNat 0 + d)
def bF (c : List Int) (i : Int) : List Int := c.set i.toNat (c.getD i.toNat 0 - 1)
def wX (r : Rule) (c : List Int) (i : Nat) : List Int := (List.range i).foldl (fun a j => lS a (r.response.getD j 0) (c.getD j 0)) (List.replicate c.length 0)
def dI (r : Rule) (e : Elem) : Option Elem :=
 let c1 := bF e.counts r.fr
 let out (c : List Int) : Option Elem := some ⟨bif decide (r.write ≥ 0) then r.write else e.value, lS c r.to 1⟩
 bif (decide (0 ≤ r.read) && e.value != r.read || e.counts.getD r.fr.toNat 0 == 0) then none else
 bif r.kind == 1 then (bif !(wL r c1) then none else out c1) else
 bif r.kind == 2 then (bif c1.getD r.jl.toNat 0 == 0 then none else out (lS (bF c1 r.jl) r.Du 1)) else
 bif r.kind == 3 then out (wX r c1 c1.length) else out c1
theorem zl.get {c : List Int} (h : zl c) {i : Nat} (hi : i < c.length) : 0 ≤ c.getD i 0 ∧ c.getD i 0 ≤ 1048576 := by
 rw [show c.getD i 0 = c[i] by simp [hi]]; exact h _ (List.getElem_mem hi)
theorem J3 {h : Hz} {j : Nat} {Z : Nat → Prop} {l : List Int} (hz : Z j) (q : h.get j = some (.row 3 0 (.ints l) [])) : T.sub Z h.au (V.row 0 false (.ints l)).aH (V.own j).aH := by
 show T.sub Z h.au (.sl 0 false (l.map T.int)) (.own j)
 simp only [T.sub]
 refine ⟨trivial, hz, ?_, by decide, 3, ?_⟩
 ·rw [iq]; intro t ht; obtain ⟨x, _, rfl⟩ := List.mem_map.1 ht; rfl
 ·have := aN q
  rw [this]; simp [OV.aF, Rw.aY, V.aY]
def okB (b : Int) (c : List Int) : Prop := ∀ x ∈ c, -b ≤ x ∧ x ≤ b
theorem okB.get {b : Int} {c : List Int} (h : okB b c) (hb : 0 ≤ b) (i : Nat) : -b ≤ c.getD i 0 ∧ c.getD i 0 ≤ b := by
 by_cases hi : i < c.length
 ·rw [show c.getD i 0 = c[i] by simp [hi]]; exact h _ (List.getElem_mem hi)
 ·rw [show c.getD i 0 = 0 by simp [List.getD_eq_getElem?_getD, List.getElem?_eq_none (by omega : c.length ≤ i)]]; omega
theorem okB.add {b k : Int} {c : List Int} (h : okB b c) (hb : 0 ≤ b) (i d : Int) (hd : -k ≤ d ∧ d ≤ k) : okB (b + k) (lS c i d) := by
 intro x hx
 have hk : 0 ≤ k := by omega
 rcases List.mem_or_eq_of_mem_set hx with hx | rfl
 ·have := h x hx; omega
 ·have := h.get hb i.toNat; omega
theorem okB.dec {b : Int} {c : List Int} (h : okB b c) (hb : 0 ≤ b) (i : Int) : okB (b + 1) (bF c i) := by
 have := h.add hb i (-1) (k := 1) ⟨by omega, by omega⟩
 rw [show bF c i = lS c i (-1) by simp only [bF, lS]; rfl]; exact this
theorem zl.b {c : List Int} (h : zl c) : okB 1048576 c := fun x hx => by have := h x hx; omega
theorem zn {n : Nat} (h : 0 < n) : (bif isZero (.int n) then some Rw.nil else VU (n : Int).toNat (T.int 0)) = some (.ints (List.replicate n 0)) := by
 cases n with
 | zero => omega
 | succ k => rfl
theorem Ap {r : Rule} {c : List Int} {i : Nat} : wX r c (i + 1) = lS (wX r c i) (r.response.getD i 0) (c.getD i 0) := by
 simp only [wX, List.range_succ, List.foldl_append, List.foldl_cons, List.foldl_nil]
theorem Dv {r : Rule} {c : List Int} {i : Nat} : (wX r c i).length = c.length := by
 induction i with
 | zero => simp [wX]
 | succ i ih => rw [Ap]; simp [lS, ih]
theorem aaq {r : Rule} {c : List Int} {b : Int} (h : okB b c) (hb : 0 ≤ b) (i : Nat) : okB (i * b) (wX r c i) := by
 induction i with
 | zero => intro x hx; simp [wX] at hx; omega
 | succ i ih =>
  rw [Ap]
  have h0 : 0 ≤ (i : Int) * b := Int.mul_nonneg (by omega) hb
  have := ih.add h0 (r.response.getD i 0) (c.getD i 0) (k := b) (h.get hb i)
  rw [show ((i + 1 : Nat) : Int) * b = i * b + b by rw [Int.natCast_add, Int.add_mul]; simp]; exact this
abbrev kS (l : List Int) : OV := .row 3 0 (.ints l) []
end Go.Proofs.YtifbibbicplneaaGreatDoor
namespace Go.Proofs.YtifbibbicplneaaGreatDoor
open Go.Ab Go.Proofs
set_option maxRecDepth 100000
theorem Yo {r : Rule} {e : Elem} (hc : zl e.counts) (h1 : (decide (0 ≤ r.read) && e.value != r.read || e.counts.getD r.fr.toNat 0 == 0) = false) (i : Nat) : 0 ≤ (bF e.counts r.fr).getD i 0 := by
 have h0 : ∀ j, 0 ≤ e.counts.getD j 0 := fun j => by
  by_cases hj : j < e.counts.length
  ·exact (hc.get hj).1
  ·rw [show e.counts.getD j 0 = 0 by simp [List.getD_eq_getElem?_getD, List.getElem?_eq_none (by omega : e.counts.length ≤ j)]]; omega
 have h2 : e.counts.getD r.fr.toNat 0 ≠ 0 := by
  rw [Bool.or_eq_false_iff] at h1
  have := h1.2
  simpa using this
 have h3 := h0 r.fr.toNat
 have h4 := h0 i
 rw [bF, List.getD_eq_getElem?_getD, List.getElem?_set]
 split
 ·split
  ·simp only [Option.getD_some]; omega
  ·simp
 ·rw [← List.getD_eq_getElem?_getD]; exact h4
theorem okF {ρ : Nat → Nat} {nx pn c n : Nat} {h : Hz} {s : List Nat} {o o' : OV} (q1 : Nat.blt c nx = true) (q2 : Nat.blt c pn = true → n = c) (q3 : Hq n s = true) (q4 : (o.good nx && o.LD) = true) (q5 : h.get n = some o')
  (q6 : o'.aF.ty = o.aF.ty ∧ o'.aF.k = o.aF.k) (q7 : o.aF.l = o'.aF.l) : Nat.blt c nx = true ∧ (Nat.blt c pn = true → n = c) ∧ Hq n s = true ∧ o.good nx = true ∧
   ∃ o', h.get n = some o' ∧ o'.aF.ty = o.aF.ty ∧ o'.aF.k = o.aF.k ∧ bC (T.cZ ρ o.aF.l) o'.aF.l := by
 rw [Bool.and_eq_true] at q4
 exact ⟨q1, q2, q3, q4.1, o', q5, q6.1, q6.2, bC.of_eq ((OV.Dw q4.2 ρ).trans q7)⟩
theorem bz {c : Bool} {a b : Int} (ha : c = true → a ≠ 0) (h : (bif c then a else b) = 0) : c = false ∧ b = 0 := by
 cases c with
 | true => exact absurd h (ha rfl)
 | false => exact ⟨rfl, h⟩
theorem nz {a : Int} (h : (a != 0) = true) : a ≠ 0 := by simpa using h
theorem jD : ∀ {l : List Int}, aQ l = 0 → ∀ x ∈ l, x = 0 := by
 intro l
 induction l with
 | nil => intro _ x h; cases h
 | cons a r ih =>
  intro h x hx
  simp only [aQ] at h
  split at h
  ·rename_i h0
   rcases List.mem_cons.1 hx with rfl | hx
   ·exact h0
   ·exact ih h x hx
  ·rename_i h0; exact absurd h h0
structure BN (p : aS) : Prop where
 pos : 0 < p.states.length
 states : p.states.length ≤ 6
 values : p.values.length ≤ 3
 ac5 : p.rules.length ≤ 8
 init : dJ p.initial p.states.length = 0
 start : p.initial ≠ []
 rule : ∀ i, i < p.rules.length → fV p i = 0
theorem aar {p : aS} (h : bI p = 0) : BN p := by
 unfold bI at h
 obtain ⟨_, h⟩ := bz (fun _ => by decide) h
 obtain ⟨_, h⟩ := bz (fun _ => by decide) h
 obtain ⟨h0, h⟩ := bz (fun _ => by decide) h
 obtain ⟨h1, h⟩ := bz (fun _ => by decide) h
 obtain ⟨_, h⟩ := bz nz h
 obtain ⟨_, h⟩ := bz (fun _ => by decide) h
 obtain ⟨_, h⟩ := bz (fun _ => by decide) h
 obtain ⟨h2, h⟩ := bz nz h
 obtain ⟨h3, h⟩ := bz nz h
 have h2' : wY p = 0 := by simpa using h2
 have h3' : BO p = 0 := by simpa using h3
 have g := jD h2'
 simp only [uX, Bool.or_eq_false_iff, decide_eq_false_iff_not] at h1
 refine ⟨?_, by omega, by omega, by omega, g _ (by simp), ?_, fun i hi => ?_⟩
 ·have : (p.states.length : Int) ≠ 0 := by simpa using h0
  omega
 ·intro e
  have := g (cu ((p.initial.length : Int) == 0) 1) (by simp)
  rw [e] at this; exact absurd this (by decide)
 ·exact jD h3' _ (List.mem_map.2 ⟨i, by simpa using hi, rfl⟩)
theorem uq {x : Int} {n : Nat} (h : nK x n = false) : 0 ≤ x ∧ x < n := by
 simp only [nK, Bool.or_eq_false_iff, decide_eq_false_iff_not] at h; omega
theorem BP {x : Int} {n : Nat} (h : bW x n = 0) : 0 ≤ x ∧ x < n := by
 refine uq ?_
 unfold bW cu at h
 cases hb : nK x n with
 | false => rfl
 | true => rw [hb] at h; exact absurd h (by decide)
theorem Aq {l : List Int} {n : Nat} (h : dJ l n = 0) : rG n l := by
 unfold dJ at h
 obtain ⟨h, _⟩ := bz (fun _ => by decide) h
 rw [List.any_eq_false] at h
 exact fun q hq => uq (by simpa using h q hq)
theorem NQ {n : Nat} : ∀ {l : List Int}, oV l n = 0 → rG n l := by
 intro l
 induction l with
 | nil => intro _ q h; cases h
 | cons x r ih =>
  intro h q hq
  simp only [oV] at h
  split at h
  ·rename_i h0
   rcases List.mem_cons.1 hq with rfl | hq
   ·exact BP h0
   ·exact ih h q hq
  ·rename_i h0; exact absurd h h0
theorem TN {k : Int} (h : uh k 1 = true) : k = 1 ∨ k = 2 ∨ k = 3 := by
 unfold uh at h
 cases h1 : (k == 1) with
 | true => exact .inl (beq_iff_eq.1 h1)
 | false =>
  cases h2 : (k == 2) with
  | true => exact .inr (.inl (beq_iff_eq.1 h2))
  | false =>
   cases h3 : (k == 3) with
   | true => exact .inr (.inr (beq_iff_eq.1 h3))
   | false => rw [h1, h2, h3] at h; cases hb : (k == 4 || k == 5) <;> rw [hb] at h <;> cases h
structure ZM (n : Nat) (p : aS) (r : Rule) : Prop where
 place : yg n r
 kind : r.kind = 1 ∨ r.kind = 2 ∨ r.kind = 3
 adF : rG n r.all
 ex1 : r.kind ≠ 1 → r.ex = [] ∧ r.all = []
 rd : nK r.read p.values.length = false ∨ r.read = -1
 wr : nK r.write p.values.length = false ∨ r.write = -1
theorem rH {p : aS} {v : Int} (h : jE p v = 0) : nK v p.values.length = false ∨ v = -1 := by
 unfold jE cu at h
 have h' : ¬ (v < -1 ∨ v ≥ (p.values.length : Int)) := by
  intro q
  have : (decide (v < -1) || decide (v ≥ (p.values.length : Int))) = true := by simpa using q
  rw [this] at h; exact absurd h (by decide)
 by_cases e : v = -1
 ·exact .inr e
 ·left
  simp only [nK, Bool.or_eq_false_iff, decide_eq_false_iff_not]; omega
theorem abX {p : aS} {i : Nat} (hv : BN p) (ht : p.topology = 1) (hi : i < p.rules.length) : ZM p.states.length p (p.rules.getD i default) := by
 have h := hv.rule i hi
 have hpos := hv.pos
 simp only [fV, qw] at h
 generalize (p.rules.getD i default) = r at h ⊢
 obtain ⟨_, h⟩ := bz (fun _ => by decide) h
 obtain ⟨hb, h⟩ := bz (fun _ => by decide) h
 obtain ⟨he, h⟩ := bz nz h
 rw [Gu, Bool.or_eq_false_iff] at he
 rw [ht, Bool.or_eq_false_iff] at hb
 have hk := TN (show uh r.kind 1 = true by simpa using hb.1)
 have hu : lV r 1 = false := by rw [zo (by omega)]; exact hb.2
 have hun := J4 hu
 have hpf : r.kind ≠ 2 → r.kind ≠ 5 → r.jl = 0 ∧ r.Du = 0 := by
  intro k1 k2
  simp only [lV, RP, Bool.or_eq_false_iff] at hu
  have h3 := hu.2.2.1
  simp only [beq_eq_false_iff_ne.2 k1, beq_eq_false_iff_ne.2 k2, Bool.not_false, Bool.true_and, Bool.or_eq_false_iff] at h3
  exact ⟨Qd h3.1, Qd h3.2⟩
 have h00 : (0 : Int) ≤ 0 ∧ (0 : Int) < p.states.length := ⟨by omega, by omega⟩
 have pn : rG p.states.length [] := fun q hq => by cases hq
 rcases hk with e | e | e
 ·rw [e] at h
  have g := jD h
  have ⟨a, b⟩ := hpf (by omega) (by omega)
  exact ⟨⟨uq he.1, uq he.2, by rw [a]; exact h00, by rw [b]; exact h00, fun q => by omega, Aq (g (dJ r.ex p.states.length) (by simp))⟩, .inl e, Aq (g (dJ r.all p.states.length) (by simp)), fun q => absurd e q, rH (g (jE p r.read) (by simp)), rH (g (jE p r.write) (by simp))⟩
 ·rw [e] at h
  have g := jD h
  obtain ⟨_, u1, u2, _⟩ := hun.1 (by omega)
  exact ⟨⟨uq he.1, uq he.2, BP (g (bW r.jl p.states.length) (by simp)), BP (g (bW r.Du p.states.length) (by simp)), fun q => by omega, by rw [u1]; exact pn⟩, .inr (.inl e), by rw [u2]; exact pn, fun _ => ⟨u1, u2⟩, rH (g (jE p r.read) (by simp)), rH (g (jE p r.write) (by simp))⟩
 ·rw [e] at h
  have g := jD h
  have ⟨a, b⟩ := hpf (by omega) (by omega)
  obtain ⟨_, u1, u2, _⟩ := hun.1 (by omega)
  have hr := g (Dx r.response p.states.length) (by simp)
  unfold Dx at hr
  obtain ⟨r1, r2⟩ := bz (fun _ => by decide) hr
  exact ⟨⟨uq he.1, uq he.2, by rw [a]; exact h00, by rw [b]; exact h00, fun _ => ⟨by have q9 : (r.response.length : Int) = p.states.length := (by simpa using r1); omega, NQ r2⟩, by rw [u1]; exact pn⟩, .inr (.inr e), by rw [u2]; exact pn, fun _ => ⟨u1, u2⟩, rH (g (jE p r.read) (by simp)), rH (g (jE p r.write) (by simp))⟩
theorem TP {p : aS} (h : tX p = true) : p.topology = 1 := by
 simp only [tX, Bool.and_eq_true, beq_iff_eq] at h; exact h.1.1.1
structure adG (p : aS) (e : Elem) : Prop where
 valid : BN p
 plain : tX p = true
 len : e.counts.length = p.states.length
 nums : zl e.counts
 val : 0 ≤ e.value ∧ e.value < max 1 (p.values.length : Int)
theorem EJ {b : Bool} {n : Int} (h : cu b n = 0) (hn : n ≠ 0) : b = false := by
 cases b with
 | false => rfl
 | true => exact absurd h hn
theorem RQ {x : Int} : FP x = true ↔ 0 ≤ x ∧ x ≤ 1048576 := by simp [FP]
theorem aas {p : aS} {e : Elem} (h : uY p e = false) : e.counts.length = p.states.length ∧ zl e.counts ∧ 0 ≤ e.value ∧ e.value < max 1 (p.values.length : Int) := by
 simp only [uY, Bool.or_eq_false_iff, decide_eq_false_iff_not] at h
 obtain ⟨⟨⟨h1, h2⟩, h3⟩, h4⟩ := h
 refine ⟨?_, fun x hx => ?_, by omega, by omega⟩
 ·have : (e.counts.length : Int) = p.states.length := by simpa using h1
  omega
 ·have : e.counts.all FP = true := by simpa using h2
  exact RQ.1 (List.all_eq_true.1 this x hx)
theorem gY {α : Type} {c : Bool} {a b : Option α} {x : α} (h : (bif c then a else b) = some x) : a = some x ∨ b = some x := by
 cases c with
 | true => exact .inl h
 | false => exact .inr h
theorem J5 {c : List Int} {i d : Int} : (lS c i d).length = c.length := by simp [lS]
theorem rJ {c : List Int} {i : Int} : (bF c i).length = c.length := by simp [bF]
theorem TQ {r : Rule} {e x : Elem} (h : dI r e = some x) : x.counts.length = e.counts.length := by
 simp only [dI] at h
 have out : ∀ {c : List Int} {v : Int}, c.length = e.counts.length → some (⟨v, lS c r.to 1⟩ : Elem) = some x → x.counts.length = e.counts.length := by
  intro c v hc h; cases h; rw [J5, hc]
 rcases gY h with h | h
 ·cases h
 rcases gY h with h | h
 ·rcases gY h with h | h
  ·cases h
  ·exact out rJ h
 rcases gY h with h | h
 ·rcases gY h with h | h
  ·cases h
  ·exact out (by rw [J5, rJ, rJ]) h
 rcases gY h with h | h
 ·exact out (by rw [Dv, rJ]) h
 ·exact out rJ h
structure iG (q : Prop') : Prop where
 start : q.start.length < 2^30
 bad : q.bad.length < 2^30
 adjacent : q.adjacent.length < 2^30
 goal : q.goal.length < 2^30
 cnt : ∀ i, (q.bad.getD i default).states.length < 2^30
def oK (c : Cnt) : Bool := ((c.states.length : Int) == 0 || decide (c.least < 1)) || decide (c.least > 3)
def Jv (n : Int) (c : Cnt) : Int := aQ [dJ c.states n, cu (oK c) 1]
def uw (l : List Cnt) (n : Int) : Int := aQ (l.map (Jv n))
def Gg (p : aS) (l : List Int) : Int := bif (l.length : Int) == 0 then 0 else bif p.topology == 1 then 6 else bif (l.length : Int) != 2 then 1 else aQ [bW (l.getD 0 0) p.states.length, bW (l.getD 1 0) p.states.length]
def uy (q : Prop') : Bool := ((q.kind == 1) && decide ((q.goal.length : Int) > 0)) || (!(q.kind == 1) && (decide ((q.bad.length : Int) > 0) || decide ((q.adjacent.length : Int) > 0)))
def jm (p : aS) (q : Prop') : Int :=
 let n : Int := p.states.length
 bif bI p != 0 then bI p else bif !(validName q.name) then 2 else bif !(q.kind == 1) && q.kind != 2 then 1 else bif uy q then 1 else
 bif dJ q.start n != 0 then dJ q.start n else bif q.start.any (fun x => !(JZ p.initial x)) then 5 else
 bif !(q.kind == 1) then aQ [dJ q.goal n, cu ((q.goal.length : Int) == 0) 1] else
 aQ [cu (((q.bad.length : Int) == 0) && ((q.adjacent.length : Int) == 0)) 1, cu (decide ((q.bad.length : Int) > 3)) 4, uw q.bad n, Gg p q.adjacent]
theorem S.mg (l : List Cnt) (n : Int) (f : Bool) (hl : l.length < 2^30) (hs : ∀ i, (l.getD i default).states.length < 2^30) : aj Tryz.prog 131 [.row 3 f (.cnts l), .int n] (.int (uw l n)) := by
 refine aj.of Bd.mg (by simp) rfl rfl ?_
 conv => whnf
 refine aG.same [1, 8, 9] (fun i : Nat => [(10, .int i)]) (fun i => i ≤ l.length ∧ uw l n = aQ ((l.drop i).map (Jv n))) (fun i => l.length - i) 0 rfl (by decide) rfl (fun _ => rfl) ⟨by omega, by simp [uw]⟩ ⟨⟨_, rfl, rfl⟩, trivial⟩ ?_
 conv => whnf
 refine ⟨rfl, ?_⟩
 rintro i ⟨hi, hall⟩
 conv => whnf
 refine ⟨fun h3 => ?_, fun h3 => ?_⟩
 ·have hi' : i < l.length := by simpa using h3
  rw [aZ default hi', List.map_cons] at hall
  simp only [aQ] at hall
  have hc := hs i
  conv => whnf
  refine .mk (by simp only [Rw.rng] at *; omega) ?_
  conv => whnf
  refine ah.pure (S.dM (l.getD i default).states n false (by omega)) rfl ?_
  conv => whnf
  repeat (refine VC.mk (by first | exact id | (intro h; rw [h]; rfl)) ?_; conv => whnf)
  refine ah.pure (S.bM (oK (l.getD i default)) 1) rfl ?_
  conv => whnf
  refine ah.pure (S.bJ [dJ (l.getD i default).states n, cu (oK (l.getD i default)) 1] true (show 2 < 2^40 by decide)) rfl ?_
  conv => whnf
  refine ⟨fun h4 => ?_, fun h4 => ?_⟩
  ·conv => whnf
   refine ak.int ?_
   have h4' : Jv n (l.getD i default) ≠ 0 := nz h4
   rw [hall, if_neg h4']; rfl
  ·conv => whnf
   refine .mk (by simp only [okI] at *; omega) ?_
   conv => whnf
   have h4' : Jv n (l.getD i default) = 0 := uZ h4
   rw [if_pos h4'] at hall
   refine ⟨i + 1, ⟨by omega, hall⟩, by omega, ⟨⟨_, rfl, rfl⟩, trivial⟩, ?_, rfl⟩
   repeat' (first | exact trivial | exact ⟨_, rfl, rfl⟩ | constructor)
 ·have hi' : l.length ≤ i := by simpa using h3
  rw [List.drop_eq_nil_of_le hi'] at hall
  conv => whnf
  exact ak.int (by rw [hall]; rfl)
theorem S.kH (p : aS) (l : List Int) (f : Bool) (_hl : l.length < 2^30) : aj Tryz.prog 132 [.dat (.bT p), .row 0 f (.ints l)] (.int (Gg p l)) := by
 refine aj.of Bd.kH (by simp) rfl rfl ?_
 conv => whnf
 refine ⟨fun h1 => ?_, fun h1 => ?_⟩
 ·conv => whnf
  exact ak.int (by rw [Gg, h1]; rfl)
 conv => whnf
 refine ⟨fun h2 => ?_, fun h2 => ?_⟩
 ·conv => whnf
  exact ak.int (by rw [Gg, h1, h2]; rfl)
 conv => whnf
 refine ⟨fun h3 => ?_, fun h3 => ?_⟩
 ·conv => whnf
  exact ak.int (by rw [Gg, h1, h2, h3]; rfl)
 have h4 : l.length = 2 := by
  have : (l.length : Int) = 2 := by simpa using h3
  omega
 conv => whnf
 repeat (refine VC.mk (by simp only [Rw.rng] at *; omega) ?_; conv => whnf)
 refine ah.pure (S.bQ (l.getD 0 0) p.states.length) rfl ?_
 conv => whnf
 refine ah.pure (S.bQ (l.getD 1 0) p.states.length) rfl ?_
 conv => whnf
 refine ah.pure (S.bJ [bW (l.getD 0 0) p.states.length, bW (l.getD 1 0) p.states.length] true (show 2 < 2^40 by decide)) rfl ?_
 conv => whnf
 exact ak.int (by rw [Gg, h1, h2, h3]; rfl)
theorem S.dL (p : aS) (q : Prop') (hp : bg p) (hq : iG q) : aj Tryz.prog 84 [.dat (.bT p), .dat (.prop q)] (.int (jm p q)) := by
 have g1 := hp.states; have g5 := hp.initial
 have q1 := hq.start; have q2 := hq.bad; have q3 := hq.adjacent; have q4 := hq.goal
 refine aj.of Bd.dL (by simp) rfl rfl ?_
 conv => whnf
 refine ah.pure (S.iP p hp) rfl ?_
 conv => whnf
 refine ⟨fun h1 => ?_, fun h1 => ?_⟩
 ·conv => whnf
  exact ak.int (by rw [jm, h1]; rfl)
 conv => whnf
 refine ah.pure (S.fH q.name) rfl ?_
 conv => whnf
 refine ⟨fun h2 => ?_, fun h2 => ?_⟩
 ·conv => whnf
  exact ak.int (by rw [jm, h1, h2]; rfl)
 conv => whnf
 repeat (refine VC.mk id ?_; conv => whnf)
 refine ⟨fun h3 => ?_, fun h3 => ?_⟩
 ·conv => whnf
  exact ak.int (by rw [jm, h1, h2, h3]; rfl)
 conv => whnf
 repeat (refine VC.mk id ?_; conv => whnf)
 refine ⟨fun h4 => ?_, fun h4 => ?_⟩
 ·conv => whnf
  refine Fork.mk (fun _ => ?_) (fun q => absurd (q.symm.trans (h4)) Bool.false_ne_true)
  conv => whnf
  exact ak.int (by rw [jm, h1, h2, h3, show uy q = true by rw [uy]; erw [h4]; rfl]; rfl)
 conv => whnf
 repeat (refine VC.mk (by first | exact id | (intro h; simp_all; done)) ?_; conv => whnf)
 refine ⟨fun h5 => ?_, fun h5 => ?_⟩
 ·conv => whnf
  exact ak.int (by rw [jm, h1, h2, h3, show uy q = true by rw [uy]; erw [h5]; simp]; rfl)
 have h45 : uy q = false := by rw [uy]; erw [h4, h5]; rfl
 conv => whnf
 refine ah.pure (S.dM q.start p.states.length false (by omega)) rfl ?_
 conv => whnf
 refine ⟨fun h6 => ?_, fun h6 => ?_⟩
 ·conv => whnf
  exact ak.int (by rw [jm, h1, h2, h3, h45, h6]; rfl)
 conv => whnf
 refine aG.same [2, 3, 6, 7, 65, 66] (fun i : Nat => [(67, .int i)]) (fun i => i ≤ q.start.length ∧ (q.start.take i).any (fun x => !(JZ p.initial x)) = false) (fun i => q.start.length - i) 0 rfl (by decide) rfl (fun _ => rfl) ⟨by omega, by simp⟩ ⟨⟨_, rfl, rfl⟩, trivial⟩ ?_
 conv => whnf
 refine ⟨rfl, ?_⟩
 rintro i ⟨hi, hall⟩
 conv => whnf
 refine ⟨fun h7 => ?_, fun h7 => ?_⟩
 ·have hi' : i < q.start.length := by simpa using h7
  conv => whnf
  refine .mk (by simp only [Rw.rng] at *; omega) ?_
  conv => whnf
  refine ah.pure (S.slices_Contains_int p.initial (q.start.getD i 0) false (by omega)) rfl ?_
  conv => whnf
  refine ⟨fun h8 => ?_, fun h8 => ?_⟩
  ·conv => whnf
   exact ak.int (by rw [jm, h1, h2, h3, h45, h6, fZ (d := 0) hi' h8]; rfl)
  ·conv => whnf
   refine .mk (by simp only [okI] at *; omega) ?_
   conv => whnf
   refine ⟨i + 1, ⟨by omega, ?_⟩, by omega, ⟨⟨_, rfl, rfl⟩, trivial⟩, ?_, rfl⟩
   ·rw [jF (d := 0) hi' hall]; exact h8
   ·repeat' (first | exact trivial | exact ⟨_, rfl, rfl⟩ | constructor)
 have hi' : q.start.length ≤ i := by simpa using h7
 rw [List.take_of_length_le hi'] at hall
 conv => whnf
 refine ⟨fun h8 => ?_, fun h8 => ?_⟩
 ·conv => whnf
  refine ah.pure (S.dM q.goal p.states.length false (by omega)) rfl ?_
  conv => whnf
  refine ah.pure (S.bM ((q.goal.length : Int) == 0) 1) rfl ?_
  conv => whnf
  refine ah.pure (S.bJ [dJ q.goal p.states.length, cu ((q.goal.length : Int) == 0) 1] true (show 2 < 2^40 by decide)) rfl ?_
  conv => whnf
  exact ak.int (by rw [jm, h1, h2, h3, h45, h6, hall, h8]; rfl)
 conv => whnf
 repeat (refine VC.mk id ?_; conv => whnf)
 refine ah.pure (S.bM (((q.bad.length : Int) == 0) && ((q.adjacent.length : Int) == 0)) 1) rfl ?_
 conv => whnf
 refine ah.pure (S.bM (decide ((q.bad.length : Int) > 3)) 4) rfl ?_
 conv => whnf
 refine ah.pure (S.mg q.bad p.states.length false q2 hq.cnt) rfl ?_
 conv => whnf
 refine ah.pure (S.kH p q.adjacent false q3) rfl ?_
 conv => whnf
 refine ah.pure (S.bJ [cu (((q.bad.length : Int) == 0) && ((q.adjacent.length : Int) == 0)) 1, cu (decide ((q.bad.length : Int) > 3)) 4, uw q.bad p.states.length, Gg p q.adjacent] true (show 4 < 2^40 by decide)) rfl ?_
 conv => whnf
 exact ak.int (by rw [jm, h1, h2, h3, h45, h6, hall, h8]; rfl)
theorem S.Dy (l : List Int) (s : Int) (f : Bool) (hl : l.length < 2^40) : aj Tryz.prog 136 [.row 0 f (.ints l), .int s] (.bool (JZ l s)) := by
 refine aj.of Bd.Dy (by simp) rfl rfl ?_
 conv => whnf
 refine aG.same [0, 1] (fun i : Nat => [(5, .int i)]) (fun i => i ≤ l.length ∧ (l.take i).any (fun x => s == x) = false) (fun i => l.length - i) 0 rfl (by decide) rfl (fun _ => rfl) ⟨by omega, by simp⟩ ⟨⟨_, rfl, rfl⟩, trivial⟩ ?_
 conv => whnf
 refine ⟨rfl, ?_⟩
 rintro i ⟨hi, hall⟩
 conv => whnf
 refine ⟨fun h3 => ?_, fun h3 => ?_⟩
 ·have hi' : i < l.length := by simpa using h3
  conv => whnf
  refine .mk (by simp only [Rw.rng] at *; omega) ?_
  conv => whnf
  refine ⟨fun h4 => ?_, fun h4 => ?_⟩
  ·have h4' : (s == l.getD i 0) = true := by rw [show (s == l.getD i 0) = (l.getD i 0 == s) from Bool.beq_comm]; exact h4
   conv => whnf
   exact ak.bool (fZ (d := 0) hi' h4')
  ·have h4' : (s == l.getD i 0) = false := by rw [show (s == l.getD i 0) = (l.getD i 0 == s) from Bool.beq_comm]; exact h4
   conv => whnf
   refine .mk (by simp only [okI] at *; omega) ?_
   conv => whnf
   refine ⟨i + 1, ⟨by omega, ?_⟩, by omega, ⟨⟨_, rfl, rfl⟩, trivial⟩, ?_, rfl⟩
   ·rw [jF (d := 0) hi' hall]; exact h4'
   ·repeat' (first | exact trivial | exact ⟨_, rfl, rfl⟩ | constructor)
 ·have hi' : l.length ≤ i := by simpa using h3
  rw [List.take_of_length_le hi'] at hall
  conv => whnf
  exact ak.bool hall
theorem Yp {p : aS} {l : List Int} (h1 : (decide ((l.length : Int) > 0) && (p.topology == 1)) = false) (h2 : ((l.length : Int) != 0 && (l.length : Int) != 2) = false) : Gg p l = bif l.any (fun x => nK x p.states.length) then 5 else 0 := by
 unfold Gg
 rcases l with _ | ⟨a, _ | ⟨b, _ | ⟨c, r⟩⟩⟩
 ·rfl
 ·simp at h2
 ·have ht : (p.topology == 1) = false := by simpa using h1
  rw [ht]
  simp only [List.length_cons, List.length_nil, List.getD_cons_zero, List.getD_cons_succ, List.any_cons, List.any_nil, Bool.or_false, bW]
  cases nK a p.states.length <;> cases nK b p.states.length <;> rfl
 ·simp at h2; omega
theorem Qe {c : Cnt} : oK c = ((c.states.length : Int) == 0 || !(gu c.least 1 3)) := by
 rw [oK, nV, Bool.or_assoc]
theorem S.fO (p : aS) (q : Prop') (hp : bg p) (hq : iG q) : aj Tryz.prog 85 [.dat (.bT p), .dat (.prop q)] (.int (jm p q)) := by
 have g1 := hp.states; have g5 := hp.initial
 have q1 := hq.start; have q2 := hq.bad; have q3 := hq.adjacent; have q4 := hq.goal
 refine aj.of Bd.fO (by simp) rfl rfl ?_
 conv => whnf
 refine ah.pure (S.nX p hp) rfl ?_
 conv => whnf
 refine ⟨fun h1 => ?_, fun h1 => ?_⟩
 ·conv => whnf
  exact ak.int (by rw [jm, h1]; rfl)
 conv => whnf
 refine ah.pure (S.jo q.name) rfl ?_
 conv => whnf
 refine ⟨fun h2 => ?_, fun h2 => ?_⟩
 ·conv => whnf
  exact ak.int (by rw [jm, h1, h2]; rfl)
 conv => whnf
 repeat (refine VC.mk id ?_; conv => whnf)
 refine ⟨fun h3 => ?_, fun h3 => ?_⟩
 ·replace h3 : (!(q.kind == 1) && q.kind != 2) = true := h3
  conv => whnf
  exact ak.int (by rw [jm, h1, h2, h3]; rfl)
 replace h3 : (!(q.kind == 1) && q.kind != 2) = false := h3
 have k2 : (q.kind == 2) = !(q.kind == 1) := by
  cases e : (q.kind == 1) with
  | true => rw [beq_iff_eq.1 e]; rfl
  | false => rw [e] at h3; simpa using h3
 conv => whnf
 repeat (refine VC.mk (by first | exact id | (intro h; rw [h]; rfl) | (intro h; simp_all; done)) ?_; conv => whnf)
 refine ⟨fun h4 => ?_, fun h4 => ?_⟩
 ·rw [k2] at h4
  conv => whnf
  exact ak.int (by rw [jm, h1, h2, h3, show uy q = true from h4]; rfl)
 rw [k2] at h4
 replace h4 : uy q = false := h4
 conv => whnf
 refine ah.pure (S.iF q.start p.states.length false (by omega) (by omega)) rfl ?_
 conv => whnf
 refine ⟨fun h6 => ?_, fun h6 => ?_⟩
 ·conv => whnf
  exact ak.int (by rw [jm, h1, h2, h3, h4, h6]; rfl)
 conv => whnf
 refine aG.same [2, 3, 6] (fun i : Nat => [(8, .int i)]) (fun i => i ≤ q.start.length ∧ (q.start.take i).any (fun x => !(JZ p.initial x)) = false) (fun i => q.start.length - i) 0 rfl (by decide) rfl (fun _ => rfl) ⟨by omega, by simp⟩ ⟨⟨_, rfl, rfl⟩, trivial⟩ ?_
 conv => whnf
 refine ⟨rfl, ?_⟩
 rintro i ⟨hi, hall⟩
 conv => whnf
 refine ⟨fun h7 => ?_, fun h7 => ?_⟩
 ·have hi' : i < q.start.length := by simpa using h7
  conv => whnf
  refine .mk (by simp only [Rw.rng] at *; omega) ?_
  conv => whnf
  refine ah.pure (S.Dy p.initial (q.start.getD i 0) false (by omega)) rfl ?_
  conv => whnf
  refine ⟨fun h8 => ?_, fun h8 => ?_⟩
  ·conv => whnf
   exact ak.int (by rw [jm, h1, h2, h3, h4, h6, fZ (d := 0) hi' h8]; rfl)
  ·conv => whnf
   refine .mk (by simp only [okI] at *; omega) ?_
   conv => whnf
   refine ⟨i + 1, ⟨by omega, ?_⟩, by omega, ⟨⟨_, rfl, rfl⟩, trivial⟩, ?_, rfl⟩
   ·rw [jF (d := 0) hi' hall]; exact h8
   ·repeat' (first | exact trivial | exact ⟨_, rfl, rfl⟩ | constructor)
 have hi' : q.start.length ≤ i := by simpa using h7
 rw [List.take_of_length_le hi'] at hall
 clear h7 hi'
 conv => whnf
 refine ⟨fun h8 => ?_, fun h8 => ?_⟩
 ·have h8' : (!(q.kind == 1)) = true := by rw [← k2]; exact h8
  have hS : jm p q = aQ [dJ q.goal p.states.length, cu ((q.goal.length : Int) == 0) 1] := by rw [jm, h1, h2, h3, h4, h6, hall, h8']; rfl
  rw [hS]
  conv => whnf
  refine ah.pure (S.iF q.goal p.states.length false (by omega) (by omega)) rfl ?_
  conv => whnf
  refine ⟨fun h9 => ?_, fun h9 => ?_⟩
  ·conv => whnf
   exact ak.int (fN (nz h9))
  rw [show dJ q.goal p.states.length = 0 from uZ h9, f0]
  conv => whnf
  refine ⟨fun h10 => ?_, fun h10 => ?_⟩
  ·conv => whnf
   exact ak.int (by rw [h10]; rfl)
  ·conv => whnf
   exact ak.int (by rw [h10]; rfl)
 have h8' : (!(q.kind == 1)) = false := by rw [← k2]; exact h8
 have hS : jm p q = aQ [cu (((q.bad.length : Int) == 0) && ((q.adjacent.length : Int) == 0)) 1, cu (decide ((q.bad.length : Int) > 3)) 4, uw q.bad p.states.length, Gg p q.adjacent] := by rw [jm, h1, h2, h3, h4, h6, hall, h8']; rfl
 rw [hS]
 conv => whnf
 repeat (refine VC.mk id ?_; conv => whnf)
 refine ⟨fun h9 => ?_, fun h9 => ?_⟩
 ·conv => whnf
  exact ak.int (by rw [h9]; rfl)
 rw [h9, RS]
 conv => whnf
 refine ⟨fun h10 => ?_, fun h10 => ?_⟩
 ·conv => whnf
  exact ak.int (by rw [show decide ((q.bad.length : Int) > 3) = true from h10]; rfl)
 rw [show decide ((q.bad.length : Int) > 3) = false from h10, RS]
 conv => whnf
 refine aG.same [2, 3, 6] (fun i : Nat => [(10, .int i)]) (fun i => i ≤ q.bad.length ∧ uw q.bad p.states.length = aQ ((q.bad.drop i).map (Jv p.states.length))) (fun i => q.bad.length - i) 0 rfl (by decide) rfl (fun _ => rfl) ⟨by omega, by simp [uw]⟩ ⟨⟨_, rfl, rfl⟩, trivial⟩ ?_
 conv => whnf
 refine ⟨rfl, ?_⟩
 rintro j ⟨hj, hcnt⟩
 conv => whnf
 refine ⟨fun h11 => ?_, fun h11 => ?_⟩
 ·have hj' : j < q.bad.length := by simpa using h11
  rw [aZ default hj', List.map_cons] at hcnt
  simp only [aQ] at hcnt
  have hc := hq.cnt j
  conv => whnf
  refine .mk (by simp only [Rw.rng] at *; omega) ?_
  conv => whnf
  refine ah.pure (S.iF (q.bad.getD j default).states p.states.length false (by omega) (by omega)) rfl ?_
  conv => whnf
  refine ⟨fun h12 => ?_, fun h12 => ?_⟩
  ·conv => whnf
   have e1 : Jv p.states.length (q.bad.getD j default) = dJ (q.bad.getD j default).states p.states.length := fN (nz h12)
   rw [e1, if_neg (nz h12)] at hcnt
   exact ak.int (by rw [hcnt, fN (nz h12)])
  have VW : dJ (q.bad.getD j default).states p.states.length = 0 := uZ h12
  have e1 : Jv p.states.length (q.bad.getD j default) = aQ [cu (oK (q.bad.getD j default)) 1] := by rw [Jv, VW, f0]
  rw [e1, Qe] at hcnt
  conv => whnf
  repeat (refine VC.mk (by first | exact id | (intro h; (repeat' apply And.intro) <;> first | exact h | omega | (simp only [Rw.mD]; omega) | (simp only [Rw.rng]; omega)) | (simp only [Rw.rng] at *; omega)) ?_; conv => whnf)
  refine ah.cO (fun _ => S.aX (q.bad.getD j default).least 1 3) rfl ?_
  conv => whnf
  repeat (refine VC.mk (by first | exact id | (intro h; rw [h]; rfl)) ?_; conv => whnf)
  refine ⟨fun h13 => ?_, fun h13 => ?_⟩
  ·replace h13 : (((q.bad.getD j default).states.length : Int) == 0 || !(gu (q.bad.getD j default).least 1 3)) = true := h13
   rw [h13] at hcnt
   conv => whnf
   exact ak.int (by rw [hcnt]; rfl)
  ·replace h13 : (((q.bad.getD j default).states.length : Int) == 0 || !(gu (q.bad.getD j default).least 1 3)) = false := h13
   rw [h13] at hcnt
   conv => whnf
   refine .mk (by simp only [okI] at *; omega) ?_
   conv => whnf
   refine ⟨j + 1, ⟨by omega, hcnt⟩, by omega, ⟨⟨_, rfl, rfl⟩, trivial⟩, ?_, rfl⟩
   repeat' (first | exact trivial | exact ⟨_, rfl, rfl⟩ | constructor)
 have hj' : q.bad.length ≤ j := by simpa using h11
 rw [List.drop_eq_nil_of_le hj'] at hcnt
 rw [hcnt, show aQ (List.map (Jv p.states.length) []) = 0 from rfl, f0]
 conv => whnf
 repeat (refine VC.mk id ?_; conv => whnf)
 refine ⟨fun h12 => ?_, fun h12 => ?_⟩
 ·replace h12 : (decide ((q.adjacent.length : Int) > 0) && (p.topology == 1)) = true := h12
  conv => whnf
  rw [Bool.and_eq_true] at h12
  have : ((q.adjacent.length : Int) == 0) = false := beq_eq_false_iff_ne.2 (by have := of_decide_eq_true h12.1; omega)
  exact ak.int (by rw [Gg, this, h12.2]; rfl)
 replace h12 : (decide ((q.adjacent.length : Int) > 0) && (p.topology == 1)) = false := h12
 conv => whnf
 repeat (refine VC.mk id ?_; conv => whnf)
 refine ⟨fun h13 => ?_, fun h13 => ?_⟩
 ·replace h13 : ((q.adjacent.length : Int) != 0 && (q.adjacent.length : Int) != 2) = true := h13
  conv => whnf
  rw [Bool.and_eq_true] at h13
  have e0 : ((q.adjacent.length : Int) == 0) = false := by simpa using h13.1
  have e1 : (p.topology == 1) = false := by
   rw [Bool.and_eq_false_iff] at h12
   rcases h12 with h12 | h12
   ·have := of_decide_eq_false h12
    have : (q.adjacent.length : Int) ≠ 0 := by simpa using e0
    omega
   ·exact h12
  exact ak.int (by rw [Gg, e0, e1, h13.2]; rfl)
 replace h13 : ((q.adjacent.length : Int) != 0 && (q.adjacent.length : Int) != 2) = false := h13
 rw [Yp h12 h13]
 conv => whnf
 refine aG.same [2, 3, 6] (fun i : Nat => [(12, .int i)]) (fun i => i ≤ q.adjacent.length ∧ (q.adjacent.take i).any (fun x => nK x p.states.length) = false) (fun i => q.adjacent.length - i) 0 rfl (by decide) rfl (fun _ => rfl) ⟨by omega, by simp⟩ ⟨⟨_, rfl, rfl⟩, trivial⟩ ?_
 conv => whnf
 refine ⟨rfl, ?_⟩
 rintro k ⟨hk, aat⟩
 conv => whnf
 refine ⟨fun h14 => ?_, fun h14 => ?_⟩
 ·have hk' : k < q.adjacent.length := by simpa using h14
  conv => whnf
  repeat (refine VC.mk (by simp only [okI, Rw.rng] at *; omega) ?_; conv => whnf)
  refine ah.pure (S.aX (q.adjacent.getD k 0) 0 (p.states.length - 1)) rfl ?_
  conv => whnf
  refine ⟨fun h15 => ?_, fun h15 => ?_⟩
  ·replace h15 : (!(gu (q.adjacent.getD k 0) 0 (p.states.length - 1))) = true := h15
   rw [vg] at h15
   conv => whnf
   exact ak.int (by rw [fZ (d := 0) hk' h15]; rfl)
  ·replace h15 : (!(gu (q.adjacent.getD k 0) 0 (p.states.length - 1))) = false := h15
   rw [vg] at h15
   conv => whnf
   refine .mk (by simp only [okI] at *; omega) ?_
   conv => whnf
   refine ⟨k + 1, ⟨by omega, ?_⟩, by omega, ⟨⟨_, rfl, rfl⟩, trivial⟩, ?_, rfl⟩
   ·rw [jF (d := 0) hk' aat]; exact h15
   ·repeat' (first | exact trivial | exact ⟨_, rfl, rfl⟩ | constructor)
 have hk' : q.adjacent.length ≤ k := by simpa using h14
 rw [List.take_of_length_le hk'] at aat
 conv => whnf
 exact ak.int (by rw [aat]; rfl)
theorem ak.abY {h : Hz} {j : Nat} {l : List Int} (q : h.get j = some (kS l)) : ak (.row 0 false (.ints l)) (.own j) h := ⟨J3 trivial q⟩
theorem ak.ac6 {h : Hz} {k k' : Nat} {r : Rw} (e : r.len = 0) : ak (.row k false r) (.row k' true .nil) h := ⟨by
 have : r.aY = [] := List.eq_nil_of_length_eq_zero (by rw [Rw.eY]; exact e)
 show T.sub (fun _ => True) h.au (.sl k false r.aY) (.sl k' true [])
 rw [this]; simp [T.sub]⟩
theorem S.J6 (l : List Int) (f : Bool) (hl : l.length < 2^30) : aj Tryz.prog 112 [.row 0 f (.ints l)] (.row 0 false (.ints l)) := by
 refine aj.of Bd.jT (by simp) rfl rfl ?_
 conv => whnf
 refine VX.mk (fun hz => ?_) ?_
 ·conv => whnf
  refine Fork.mk (fun _ => ?_) (fun q => absurd (q.symm.trans ((rfl : true = true))) Bool.false_ne_true)
  conv => whnf
  exact ak.ac6 hz
 ·conv => whnf
  refine Fork.mk (fun q => absurd (q.symm.trans ((rfl : false = false))).symm Bool.false_ne_true) (fun _ => ?_)
  conv => whnf
  refine .mk (by simp only [nJ, nD, Rw.len]; omega) ?_
  conv => whnf
  repeat (refine VC.mk (by simp only [nJ, nD, Rw.len]; omega) ?_; conv => whnf)
  exact ak.abY rfl
theorem S.nY (l : List Int) (f : Bool) (hl : l.length < 2^30) : aj Tryz.prog 166 [.row 0 f (.ints l)] (.row 0 false (.ints l)) := by
 refine aj.of Bd.nY (by simp) rfl rfl ?_
 conv => whnf
 refine .mk (by simp only [nJ, nD, Rw.len]; omega) ?_
 conv => whnf
 exact ak.abY rfl
def kT (p : aS) (q : Prop') : List Int := bif decide ((q.start.length : Int) > 0) then q.start else p.initial
theorem Qg {p : aS} {q : Prop'} (h : jm p q = 0) : bI p = 0 := by
 unfold jm at h
 obtain ⟨h1, _⟩ := bz nz h
 exact uZ h1
theorem S.mF (p : aS) (q : Prop') (hp : bg p) (hq : iG q) (hv : jm p q = 0) : aj Tryz.prog 97 [.dat (.bT p), .dat (.prop q)] (.fQ [.row 0 false (.ints (kT p q)), .int 0]) := by
 have g5 := hp.initial; have q1 := hq.start
 refine aj.of Bd.mF (by simp) rfl rfl ?_
 conv => whnf
 refine ah.pure (S.dL p q hp hq) rfl ?_
 conv => whnf
 refine Fork.mk (fun q => absurd (q.symm.trans ((by simp [hv]))).symm Bool.false_ne_true) (fun _ => ?_)
 conv => whnf
 refine ⟨fun h2 => ?_, fun h2 => ?_⟩
 ·conv => whnf
  refine ah.pure (S.J6 q.start false q1) rfl ?_
  conv => whnf
  exact ak.eqv (by rw [kT, show decide ((q.start.length : Int) > 0) = true from h2]; rfl)
 ·conv => whnf
  refine ah.pure (S.J6 p.initial false g5) rfl ?_
  conv => whnf
  exact ak.eqv (by rw [kT, show decide ((q.start.length : Int) > 0) = false from h2]; rfl)
theorem S.mG (p : aS) (q : Prop') (hp : bg p) (hq : iG q) : aj Tryz.prog 144 [.dat (.bT p), .dat (.prop q)] (.row 0 false (.ints (kT p q))) := by
 have g5 := hp.initial; have q1 := hq.start
 refine aj.of Bd.mG (by simp) rfl rfl ?_
 conv => whnf
 refine ⟨fun h2 => ?_, fun h2 => ?_⟩
 ·conv => whnf
  refine ah.pure (S.nY q.start false q1) rfl ?_
  conv => whnf
  exact ak.eqv (by rw [kT, show decide ((q.start.length : Int) > 0) = true from h2]; rfl)
 ·conv => whnf
  refine ah.pure (S.nY p.initial false g5) rfl ?_
  conv => whnf
  exact ak.eqv (by rw [kT, show decide ((q.start.length : Int) > 0) = false from h2]; rfl)
theorem S.vk (p : aS) (q : Prop') (hp : bg p) (hq : iG q) (hv : jm p q = 0) : aj Tryz.prog 101 [.dat (.bT p), .dat (.prop q)] (.fQ [.row 0 false (.ints (kT p q)), .int 0]) := by
 refine aj.of Bd.vk (by simp) rfl rfl ?_
 conv => whnf
 refine ah.pure (S.fO p q hp hq) rfl ?_
 conv => whnf
 refine Fork.mk (fun q => absurd (q.symm.trans ((by simp [hv]))).symm Bool.false_ne_true) (fun _ => ?_)
 conv => whnf
 refine ah.pure (S.mG p q hp hq) rfl ?_
 conv => whnf
 exact ak.eqv rfl
theorem J7 {p : aS} {q : Prop'} (hp : bg p) (hq : iG q) : (kT p q).length < 2^30 := by
 unfold kT
 cases decide ((q.start.length : Int) > 0)
 ·exact hp.initial
 ·exact hq.start
end Go.Proofs.YtifbibbicplneaaGreatDoor
