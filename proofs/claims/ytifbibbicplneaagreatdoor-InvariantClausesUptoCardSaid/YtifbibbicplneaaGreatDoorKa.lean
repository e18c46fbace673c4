/-
 A part of the proof. No condition.
-/
import Derived.Test.YtifbibbicplneaaGreatDoorSb
import Derived.Test.YtifbibbicplneaaGreatDoorLf
import Derived.Test.YtifbibbicplneaaGreatDoorLe
namespace Go.Proofs.YtifbibbicplneaaGreatDoor
open Go.Ab Go.Proofs
set_option maxRecDepth 100000
def JD (a b : Int) : Int := if a < b then -1 else if b < a then 1 else 0
def cmpL : List Int → List Int → Int
 | [], [] => 0
 | [], _ :: _ => -1
 | _ :: _, [] => 1
 | x :: a, y :: b => if x < y then -1 else if y < x then 1 else cmpL a b
def UD (a b : Elem) : Int := if a.value < b.value then -1 else if b.value < a.value then 1 else cmpL a.counts b.counts
theorem aZ {α : Type} {l : List α} {i : Nat} (d : α) (h : i < l.length) : l.drop i = l.getD i d :: l.drop (i + 1) := by
 rw [List.drop_eq_getElem_cons h]; simp [h]
theorem KE {a b : List Int} {i : Nat} (ha : i < a.length) (hb : i < b.length) :
  cmpL (a.drop i) (b.drop i) = if a.getD i 0 < b.getD i 0 then -1 else if b.getD i 0 < a.getD i 0 then 1 else cmpL (a.drop (i + 1)) (b.drop (i + 1)) := by
 rw [aZ 0 ha, aZ 0 hb]; rfl
theorem DN {a b : List Int} {i : Nat} (hi : a.length ≤ i ∨ b.length ≤ i) (h1 : i ≤ a.length) (h2 : i ≤ b.length) :
  cmpL (a.drop i) (b.drop i) = if a.length < b.length then -1 else if b.length < a.length then 1 else 0 := by
 by_cases ha : a.length ≤ i
 ·have e : a.drop i = [] := List.drop_eq_nil_of_le ha
  rw [e]
  by_cases hb : b.length ≤ i
  ·rw [List.drop_eq_nil_of_le hb, if_neg (by omega), if_neg (by omega)]; rfl
  ·rw [aZ 0 (by omega), if_pos (by omega)]; rfl
 ·have hb : b.length ≤ i := by omega
  rw [List.drop_eq_nil_of_le hb, aZ 0 (by omega), if_neg (by omega), if_pos (by omega)]; rfl
theorem S.cmp_isNaN_int (a : Int) : aj Tryz.prog 139 [.int a] (.bool false) := by
 refine aj.of Bd.cmp_isNaN_int (by simp) rfl rfl ?_
 conv => whnf
 refine ak.bool ?_
 simp
theorem S.cmp_Compare_int (a b : Int) : aj Tryz.prog 89 [.int a, .int b] (.int (JD a b)) := by
 refine aj.of Bd.cmp_Compare_int (by simp) rfl rfl ?_
 conv => whnf
 refine ah.pure (S.cmp_isNaN_int a) rfl ?_
 conv => whnf
 refine ah.pure (S.cmp_isNaN_int b) rfl ?_
 conv => whnf
 refine Fork.mk (fun h1 => by cases h1) (fun _ => ?_)
 conv => whnf
 refine Fork.mk (fun h1 => by cases h1) (fun _ => ?_)
 conv => whnf
 refine ⟨fun h1 => ?_, fun h1 => ?_⟩
 ·conv => whnf
  exact ak.int (by simp only [decide_eq_true_eq] at h1; simp [JD, h1])
 ·conv => whnf
  simp only [decide_eq_false_iff_not] at h1
  refine ⟨fun h2 => ?_, fun h2 => ?_⟩
  ·conv => whnf
   exact ak.int (by simp only [decide_eq_true_eq] at h2; simp [JD, h1, h2])
  ·conv => whnf
   exact ak.int (by simp only [decide_eq_false_iff_not] at h2; simp [JD, h1, h2])
theorem S.vF (a b : List Int) (ha : a.length < 2^40) (hb : b.length < 2^40) : aj Tryz.prog 91 [.row 0 false (.ints a), .row 0 false (.ints b)] (.int (cmpL a b)) := by
 refine aj.of Bd.lG (by simp) rfl rfl ?_
 conv => whnf
 refine aG.same [0, 1, 9, 10] (fun i : Nat => [(11, .int i)]) (fun i => i ≤ a.length ∧ i ≤ b.length ∧ cmpL a b = cmpL (a.drop i) (b.drop i)) (fun i => a.length - i) 0 rfl (by decide) rfl (fun _ => rfl) ⟨by omega, by omega, rfl⟩ ⟨⟨_, rfl, rfl⟩, trivial⟩ ?_
 conv => whnf
 refine ⟨rfl, ?_⟩
 rintro i ⟨hi, hj, he⟩
 conv => whnf
 refine ⟨fun h3 => ?_, fun h3 => ?_⟩
 ·have hi' : i < a.length := by simpa using h3
  conv => whnf
  refine .mk (by simp only [Rw.rng] at *; omega) ?_
  conv => whnf
  refine ⟨fun h4 => ?_, fun h4 => ?_⟩
  ·conv => whnf
   have hb' : b.length ≤ i := by simpa using h4
   refine ak.int ?_
   rw [he, DN (.inr hb') hi hj, if_neg (by omega), if_pos (by omega)]
  ·have hb' : i < b.length := by simpa using h4
   conv => whnf
   refine .mk (by simp only [Rw.rng] at *; omega) ?_
   conv => whnf
   refine ah.pure (S.cmp_Compare_int _ _) rfl ?_
   rw [KE hi' hb'] at he
   conv => whnf
   simp only [Int.toNat_natCast]
   refine ⟨fun h5 => ?_, fun h5 => ?_⟩
   ·conv => whnf
    refine ak.int ?_
    rw [he]
    simp only [bne_iff_ne, ne_eq] at h5 ⊢
    generalize a.getD i 0 = x at h5 ⊢
    generalize b.getD i 0 = y at h5 ⊢
    unfold JD at h5 ⊢
    by_cases h6 : x < y
    ·simp [h6]
    ·by_cases h7 : y < x
     ·simp [h6, h7]
     ·simp [h6, h7] at h5
   ·conv => whnf
    refine .mk (by simp only [okI] at *; omega) ?_
    conv => whnf
    have h6 : ¬ a.getD i 0 < b.getD i 0 ∧ ¬ b.getD i 0 < a.getD i 0 := by
     simp only [bne_eq_false_iff_eq] at h5
     generalize a.getD i 0 = x at h5 ⊢
     generalize b.getD i 0 = y at h5 ⊢
     unfold JD at h5
     by_cases h6 : x < y
     ·simp [h6] at h5
     ·by_cases h7 : y < x
      ·simp [h6, h7] at h5
      ·exact ⟨h6, h7⟩
    refine ⟨i + 1, ⟨by omega, by omega, by rw [he, if_neg h6.1, if_neg h6.2]⟩, by omega, ⟨⟨_, rfl, rfl⟩, trivial⟩, ?_, rfl⟩
    repeat' (first | exact trivial | exact ⟨_, rfl, rfl⟩ | constructor)
 ·have hi' : a.length ≤ i := by simpa using h3
  conv => whnf
  refine ⟨fun h4 => ?_, fun h4 => ?_⟩
  ·conv => whnf
   refine ak.int ?_
   rw [he, DN (.inl hi') hi hj, if_pos (by simpa using h4)]
  ·conv => whnf
   refine ak.int ?_
   have : b.length ≤ a.length := by simpa using h4
   rw [he, DN (.inl hi') hi hj, if_neg (by omega), if_neg (by omega)]
def Hl (l : List Elem) : Prop := ∀ e ∈ l, e.counts.length < 2^40
theorem Hl.get {l : List Elem} (h : Hl l) (i : Nat) : (l.getD i default).counts.length < 2^40 := by
 rw [List.getD_eq_getElem?_getD]
 cases e : l[i]? with
 | none => show ([] : List Int).length < 2^40; decide
 | some x => exact h x (List.mem_of_getElem? e)
theorem jF {α : Type} {l : List α} {p : α → Bool} {d : α} {i : Nat} (hi : i < l.length) (h : (l.take i).any p = false) : (l.take (i + 1)).any p = p (l.getD i d) := by
 rw [List.take_add_one, List.any_append, h, Bool.false_or]
 simp [hi]
theorem fZ {α : Type} {l : List α} {p : α → Bool} {d : α} {i : Nat} (hi : i < l.length) (h : p (l.getD i d) = true) : l.any p = true := by
 rw [List.any_eq_true]
 exact ⟨l[i], List.getElem_mem hi, by simpa [hi] using h⟩
theorem S.pI (a b : List Int) (ha : a.length < 2^40) (hb : b.length < 2^40) : aj Tryz.prog 66 [.row 0 false (.ints a), .row 0 false (.ints b)] (.int (cmpL a b)) := by
 refine aj.of Bd.pI (by simp) rfl rfl ?_
 conv => whnf
 refine aG.same [0, 1] (fun i : Nat => [(5, .int i)]) (fun i => i ≤ a.length ∧ i ≤ b.length ∧ cmpL a b = cmpL (a.drop i) (b.drop i)) (fun i => a.length - i) 0 rfl (by decide) rfl (fun _ => rfl) ⟨by omega, by omega, rfl⟩ ⟨⟨_, rfl, rfl⟩, trivial⟩ ?_
 conv => whnf
 refine ⟨rfl, ?_⟩
 rintro i ⟨hi, hj, he⟩
 conv => whnf
 repeat (refine VC.mk (by first | exact id | exact fun h => ⟨h, h⟩) ?_; conv => whnf)
 refine ⟨fun h3 => ?_, fun h3 => ?_⟩
 ·have hi' : i < a.length ∧ i < b.length := by
   by_cases h : i < a.length
   ·simp [h] at h3; exact ⟨h, by omega⟩
   ·simp [h] at h3
  rw [KE hi'.1 hi'.2] at he
  obtain ⟨hi1, hi2⟩ := hi'
  conv => whnf
  repeat (refine VC.mk (by simp only [Rw.rng] at *; omega) ?_; conv => whnf)
  refine ⟨fun h5 => ?_, fun h5 => ?_⟩
  ·conv => whnf
   refine ak.int ?_
   simp only [Int.toNat_natCast, decide_eq_true_eq] at h5
   rw [he, if_pos h5]
  ·conv => whnf
   repeat (refine VC.mk (by simp only [Rw.rng] at *; omega) ?_; conv => whnf)
   simp only [Int.toNat_natCast, decide_eq_false_iff_not] at h5
   refine ⟨fun h6 => ?_, fun h6 => ?_⟩
   ·conv => whnf
    refine ak.int ?_
    simp only [Int.toNat_natCast, decide_eq_true_eq] at h6
    rw [he, if_neg h5, if_pos h6]
   ·conv => whnf
    refine .mk (by simp only [okI] at *; omega) ?_
    conv => whnf
    simp only [Int.toNat_natCast, decide_eq_false_iff_not] at h6
    refine ⟨i + 1, ⟨by omega, by omega, by rw [he, if_neg h5, if_neg h6]⟩, by omega, ⟨⟨_, rfl, rfl⟩, trivial⟩, ?_, rfl⟩
    repeat' (first | exact trivial | exact ⟨_, rfl, rfl⟩ | constructor)
 ·have hi' : a.length ≤ i ∨ b.length ≤ i := by
   by_cases h : i < a.length
   ·simp [h] at h3; exact .inr (by omega)
   ·exact .inl (by omega)
  have hx := DN hi' hi hj
  rw [← he] at hx
  conv => whnf
  refine ⟨fun h4 => ?_, fun h4 => ?_⟩
  ·conv => whnf
   refine ak.int ?_
   rw [hx, if_pos (by simpa using h4)]
  ·conv => whnf
   have h5 : ¬ a.length < b.length := by simpa using h4
   refine ⟨fun h6 => ?_, fun h6 => ?_⟩
   ·conv => whnf
    refine ak.int ?_
    rw [hx, if_neg h5, if_pos (by simpa using h6)]
   ·conv => whnf
    refine ak.int ?_
    rw [hx, if_neg h5, if_neg (by simpa using h6)]
theorem S.nI (a b : Elem) (ha : a.counts.length < 2^40) (hb : b.counts.length < 2^40) : aj Tryz.prog 21 [.dat (.elem a), .dat (.elem b)] (.int (UD a b)) := by
 refine aj.of Bd.nI (by simp) rfl rfl ?_
 conv => whnf
 refine ⟨fun h1 => ?_, fun h1 => ?_⟩
 ·conv => whnf
  exact ak.int (by simp only [decide_eq_true_eq] at h1; simp [UD, h1])
 ·conv => whnf
  simp only [decide_eq_false_iff_not] at h1
  refine ⟨fun h2 => ?_, fun h2 => ?_⟩
  ·conv => whnf
   exact ak.int (by simp only [decide_eq_true_eq] at h2; simp [UD, h1, h2])
  ·simp only [decide_eq_false_iff_not] at h2
   conv => whnf
   refine ah.pure (S.pI a.counts b.counts ha hb) rfl ?_
   conv => whnf
   exact ak.int (by simp [UD, h1, h2])
theorem cmpL_eq : ∀ {a b : List Int}, cmpL a b = 0 ↔ a = b := by
 intro a
 induction a with
 | nil => intro b; cases b <;> simp [cmpL]
 | cons x a ih =>
  intro b
  cases b with
  | nil => simp [cmpL]
  | cons y b =>
   simp only [cmpL]
   split
   ·simp; omega
   ·split
    ·simp; omega
    ·rw [ih]; simp; intro _; omega
theorem Lu {a b : Elem} : UD a b = 0 ↔ a = b := by
 obtain ⟨v, c⟩ := a; obtain ⟨w, d⟩ := b
 simp only [UD]
 split
 ·simp; omega
 ·split
  ·simp; omega
  ·rw [cmpL_eq]; simp; intro _; omega
theorem S.zk (a b : List Elem) (f g : Bool) (ha : a.length < 2^40) (hb : b.length < 2^40) (sa : Hl a) (sb : Hl b) : aj Tryz.prog 28 [.row 3 f (.elems a), .row 3 g (.elems b)] (.bool (decide (a = b))) := by
 refine aj.of Bd.zk (by simp) rfl rfl ?_
 conv => whnf
 refine ⟨fun h1 => ?_, fun h1 => ?_⟩
 ·conv => whnf
  refine ak.bool ?_
  refine decide_eq_false ?_
  simp at h1
  rintro rfl; exact h1 rfl
 ·have hlen : a.length = b.length := by simp at h1; omega
  conv => whnf
  refine aG.same [0, 1] (fun i : Nat => [(5, .int i)]) (fun i => i ≤ a.length ∧ a.take i = b.take i) (fun i => a.length - i) 0 rfl (by decide) rfl (fun _ => rfl) ⟨by omega, by simp⟩ ⟨⟨_, rfl, rfl⟩, trivial⟩ ?_
  conv => whnf
  refine ⟨rfl, ?_⟩
  rintro i ⟨hi, hall⟩
  conv => whnf
  refine ⟨fun h3 => ?_, fun h3 => ?_⟩
  ·have hi' : i < a.length := by simpa using h3
   conv => whnf
   repeat (refine VC.mk (by simp only [Rw.rng] at *; omega) ?_; conv => whnf)
   refine ah.pure (S.nI _ _ (by simpa using sa.get i) (by simpa using sb.get i)) rfl ?_
   conv => whnf
   refine ⟨fun h4 => ?_, fun h4 => ?_⟩
   ·conv => whnf
    refine ak.bool ?_
    refine decide_eq_false ?_
    rintro rfl
    simp only [Int.toNat_natCast, bne_iff_ne, ne_eq] at h4
    exact h4 (Lu.2 rfl)
   ·conv => whnf
    refine .mk (by simp only [okI] at *; omega) ?_
    conv => whnf
    simp only [Int.toNat_natCast, bne_eq_false_iff_eq] at h4
    rw [Lu] at h4
    refine ⟨i + 1, ⟨by omega, ?_⟩, by omega, ⟨⟨_, rfl, rfl⟩, trivial⟩, ?_, rfl⟩
    ·rw [List.take_add_one, List.take_add_one, hall]
     congr 1
     have hb' : i < b.length := by omega
     simp only [List.getD_eq_getElem?_getD, List.getElem?_eq_getElem hi', List.getElem?_eq_getElem hb', Option.getD_some] at h4
     simp [hi', hb', h4]
    ·repeat' (first | exact trivial | exact ⟨_, rfl, rfl⟩ | constructor)
  ·conv => whnf
   refine ak.bool ?_
   have hi' : a.length ≤ i := by simpa using h3
   rw [List.take_of_length_le hi', List.take_of_length_le (by omega)] at hall
   symm; simpa using hall
def FP (n : Int) : Bool := decide (0 ≤ n) && decide (n ≤ 1048576)
theorem S.mV (l : List Int) (f : Bool) (hl : l.length < 2^40) : aj Tryz.prog 123 [.row 0 f (.ints l)] (.bool (l.all FP)) := by
 refine aj.of Bd.mV (by simp) rfl rfl ?_
 conv => whnf
 refine aG.same [5, 6] (fun i : Nat => [(7, .int i)]) (fun i => i ≤ l.length ∧ (l.take i).all FP = true) (fun i => l.length - i) 0 rfl (by decide) rfl (fun _ => rfl) ⟨by omega, by simp⟩ ⟨⟨_, rfl, rfl⟩, trivial⟩ ?_
 conv => whnf
 refine ⟨rfl, ?_⟩
 rintro i ⟨hi, hall⟩
 conv => whnf
 refine ⟨fun h3 => ?_, fun h3 => ?_⟩
 ·have hi' : i < l.length := by simpa using h3
  conv => whnf
  repeat (refine VC.mk (by first | exact id | (intro h; rw [h]; rfl) | (simp only [Rw.rng] at *; omega)) ?_; conv => whnf)
  refine ⟨fun h4 => ?_, fun h4 => ?_⟩
  ·conv => whnf
   refine ak.bool ?_
   simp only [Int.toNat_natCast] at h4
   have h5 : FP (l.getD i 0) = false := by
    have key : ∀ x : Int, (decide (x < 0) || decide (1048576 < x)) = true → FP x = false := by
     intro x h4
     unfold FP
     by_cases h0 : x < 0
     ·simp; omega
     ·simp [h0] at h4; simp; omega
    exact key _ h4
   rw [Bool.eq_false_iff]
   intro h
   rw [List.all_eq_true] at h
   have := h l[i] (List.getElem_mem hi')
   rw [show l.getD i 0 = l[i] by simp [hi']] at h5
   rw [this] at h5; cases h5
  ·conv => whnf
   refine .mk (by simp only [okI] at *; omega) ?_
   conv => whnf
   simp only [Int.toNat_natCast] at h4
   refine ⟨i + 1, ⟨by omega, ?_⟩, by omega, ⟨⟨_, rfl, rfl⟩, trivial⟩, ?_, rfl⟩
   ·have h5 : FP (l.getD i 0) = true := by
     have key : ∀ x : Int, (decide (x < 0) || decide (1048576 < x)) = false → FP x = true := by
      intro x h4
      unfold FP
      by_cases h0 : x < 0
      ·simp [h0] at h4
      ·simp [h0] at h4; simp; omega
     exact key _ h4
    rw [List.take_add_one, List.all_append, hall]
    simpa [hi'] using h5
   ·repeat' (first | exact trivial | exact ⟨_, rfl, rfl⟩ | constructor)
 ·conv => whnf
  refine ak.bool ?_
  have hi' : l.length ≤ i := by simpa using h3
  rw [List.take_of_length_le hi'] at hall; exact hall
def iO (e : Elem) : Int := if 6 < e.counts.length then 0 else if e.counts.all FP = true then e.counts.sum else 0
theorem Az : ∀ {l : List Int}, l.all FP = true → 0 ≤ l.sum ∧ l.sum ≤ l.length * 1048576 := by
 intro l
 induction l with
 | nil => intro _; simp
 | cons x l ih =>
  intro h
  simp only [List.all_cons, Bool.and_eq_true, FP, decide_eq_true_eq] at h
  have := ih h.2
  simp only [List.sum_cons, List.length_cons]
  omega
theorem Oo {l : List Int} (h : l.all FP = true) (i : Nat) : (l.take i).all FP = true := by
 rw [List.all_eq_true] at h ⊢
 exact fun x hx => h x (List.mem_of_mem_take hx)
theorem Oq {l : List Int} {i : Nat} (hi : i < l.length) : (l.take (i + 1)).sum = (l.take i).sum + l.getD i 0 := by
 rw [List.take_add_one, List.sum_append]; simp [hi]
theorem S.iJ (e : Elem) (hl : e.counts.length < 2^40) : aj Tryz.prog 80 [.dat (.elem e)] (.int (iO e)) := by
 refine aj.of Bd.iJ (by simp) rfl rfl ?_
 conv => whnf
 repeat (refine VC.mk id ?_; conv => whnf)
 refine ah.cO (fun _ => S.mV e.counts false hl) rfl ?_
 conv => whnf
 repeat (refine VC.mk (by first | exact id | (intro h; rw [h]; rfl)) ?_; conv => whnf)
 refine ⟨fun h1 => ?_, fun h1 => ?_⟩
 ·conv => whnf
  refine ak.int ?_
  unfold iO
  by_cases h : 6 < e.counts.length
  ·rw [if_pos h]
  ·rw [if_neg h, if_neg]
   have h' : ¬ (6 : Int) < e.counts.length := by omega
   simp [h'] at h1
   intro hh
   rw [List.all_eq_true] at hh
   obtain ⟨x, hx, hx'⟩ := h1
   exact absurd (hh x hx) (by simp [hx'])
 ·have h2 : ¬ 6 < e.counts.length ∧ e.counts.all FP = true := by
   by_cases h : (6 : Int) < e.counts.length
   ·simp [h] at h1
   ·simp [h] at h1
    exact ⟨by omega, by rw [List.all_eq_true]; exact h1⟩
  conv => whnf
  refine aG.same [17, 18] (fun i : Nat => [(19, .int i), (3, .int (e.counts.take i).sum)]) (fun i => i ≤ e.counts.length) (fun i => e.counts.length - i) 0 rfl (by decide) rfl (fun _ => rfl) (by omega) ⟨⟨_, rfl, rfl⟩, ⟨_, rfl, rfl⟩, trivial⟩ ?_
  conv => whnf
  refine ⟨rfl, ?_⟩
  rintro i hi
  have hb := Az (Oo h2.2 i)
  have hb' : ((e.counts.take i).length : Int) ≤ 6 := by simp; omega
  conv => whnf
  refine ⟨fun h3 => ?_, fun h3 => ?_⟩
  ·have hi' : i < e.counts.length := by simpa using h3
   have hs := Oq hi'
   have hc := Az (Oo h2.2 (i + 1))
   have hc' : ((e.counts.take (i + 1)).length : Int) ≤ 6 := by simp; omega
   conv => whnf
   repeat (refine VC.mk (by first | (simp only [okI, Int.toNat_natCast] at *; rw [← hs]; omega) | (simp only [okI, Rw.rng] at *; omega)) ?_; conv => whnf)
   refine ⟨i + 1, by omega, by omega, ⟨⟨_, rfl, rfl⟩, ⟨_, rfl, ?_⟩, trivial⟩, ?_, rfl⟩
   ·rw [hs]; simp [V.aH, rY]
   ·repeat' (first | exact trivial | exact ⟨_, rfl, rfl⟩ | constructor)
  ·conv => whnf
   refine ak.int ?_
   have hi' : e.counts.length ≤ i := by simpa using h3
   rw [List.take_of_length_le hi']
   simp [iO, h2.1, h2.2]
theorem ah.lend {P : Program} {dr : Bool} {f : FuncId} {args args' : List V} {res : V} {h : Hz} {n : Nat} {K : V → Hz → Prop} {KW : Nat → V → Hz → Prop} (S : aj P f args' res) (hs : T.dH (fun _ => True) h.au (V.aY args') (V.aY args)) (hh : res.aH.hard = true) (hr : res.free = true) (hK : K res h) : ah P dr none f args h n K KW :=
 ⟨.inl (wU.lend S hs hh (fun _ e => by cases e) ⟨res, h, rfl, rfl, fun _ => ⟨rfl, V.lZ res hr⟩, hK⟩)⟩
theorem Cb (l : List Elem) : T.dA (l.map ru) = true := by
 rw [iq]; intro t ht; obtain ⟨x, _, rfl⟩ := List.mem_map.1 ht; rfl
theorem bC.of_eq {a b : List T} (h : a = b) : bC a b := by subst h; exact .refl _
theorem ah.JW {P : Program} {dr b : Bool} {f : FuncId} {args args' : List V} {res : V} {h : Hz} {n : Nat} {K : V → Hz → Prop} {KW : Nat → V → Hz → Prop} (S : b = true → aj P f args' res) (hs : b = true → T.dH (fun _ => True) h.au (V.aY args') (V.aY args)) (hh : res.aH.hard = true) (hr : res.free = true) (hK : K res h) : ah P dr (some b) f args h n K KW :=
 ⟨.inl (.inl ⟨res, fun e => wU.lend (S e) (hs e) hh (fun _ e => by cases e) ⟨rfl, rfl⟩, hr, hK⟩)⟩
end Go.Proofs.YtifbibbicplneaaGreatDoor
