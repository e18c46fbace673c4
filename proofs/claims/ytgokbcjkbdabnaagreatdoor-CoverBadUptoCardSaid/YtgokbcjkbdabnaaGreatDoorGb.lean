/-
 A part of the proof. No condition.
-/
import Derived.Test.YtgokbcjkbdabnaaGreatDoorKa
import Derived.Test.YtgokbcjkbdabnaaGreatDoorVa
import Derived.Test.YtgokbcjkbdabnaaGreatDoorFa
namespace Go.Proofs.YtgokbcjkbdabnaaGreatDoor
open Go.Ab Go.Proofs
set_option maxRecDepth 100000
theorem tot_rng (e : Elem) : 0 ≤ totE e ∧ totE e ≤ 6291456 := by
 unfold totE
 split
 ·omega
 ·split
  ·rename_i h1 h2
   have := sum_bound h2
   omega
  ·omega
theorem S.minimalOf_c1 (x y : Elem) (hx : x.counts.length < 2^40) (hy : y.counts.length < 2^40) : SpecZ Tryz.prog F.cover_minimalOf_c1 [.dat (.elem x), .dat (.elem y)] (.int (totE x - totE y)) := by
 have h1 := tot_rng x
 have h2 := tot_rng y
 refine SpecZ.of Bd.cover_minimalOf_c1 (by simp) rfl rfl ?_
 conv => whnf
 refine CallZ.pure (S.cover_Total x hx) rfl ?_
 conv => whnf
 refine CallZ.pure (S.cover_Total y hy) rfl ?_
 conv => whnf
 refine .mk (by simp only [okI, Rw.rng] at *; omega) ?_
 conv => whnf
 exact EndZ.int rfl
def srtT (l : List Elem) : Prop := l.Pairwise fun x y => totE x ≤ totE y
theorem set_mid {α : Type} {P Q : List α} {x z : α} : (P ++ x :: Q).set P.length z = P ++ z :: Q := by
 rw [List.set_append_right _ _ (Nat.le_refl _), Nat.sub_self, List.set_cons_zero]
theorem get_mid {α : Type} {P Q : List α} {x d : α} : (P ++ x :: Q).getD P.length d = x := by
 rw [List.getD_eq_getElem?_getD, List.getElem?_append_right (Nat.le_refl _), Nat.sub_self]; rfl
theorem set_at {α : Type} {P Q : List α} {x z : α} {k : Nat} (h : k = P.length) : (P ++ x :: Q).set k z = P ++ z :: Q := by subst h; exact set_mid
theorem get_at {α : Type} {P Q : List α} {x d : α} {k : Nat} (h : k = P.length) : (P ++ x :: Q).getD k d = x := by subst h; exact get_mid
def swp (A X M Y B : List Elem) (i : Nat) : List Elem := A ++ (Y.take i ++ (X.drop i ++ (M ++ (X.take i ++ (Y.drop i ++ B)))))
theorem swp_len {A X M Y B : List Elem} {i : Nat} (h : X.length = Y.length) : (swp A X M Y B i).length = A.length + X.length + M.length + Y.length + B.length := by
 simp [swp]; omega
theorem swp_step {A X M Y B : List Elem} {i : Nat} (h : X.length = Y.length) (hi : i < X.length) {d : Elem} :
  ((swp A X M Y B i).set (A.length + i) ((swp A X M Y B i).getD (A.length + X.length + M.length + i) d)).set (A.length + X.length + M.length + i) ((swp A X M Y B i).getD (A.length + i) d) = swp A X M Y B (i + 1) := by
 have hx := drop_getD d hi
 have hy := drop_getD d (show i < Y.length by omega)
 have tx : X.take (i + 1) = X.take i ++ [X.getD i d] := by rw [List.take_add_one]; simp [hi]
 have ty : Y.take (i + 1) = Y.take i ++ [Y.getD i d] := by rw [List.take_add_one]; simp [show i < Y.length by omega]
 have e0 : swp A X M Y B i = (A ++ Y.take i) ++ X.getD i d :: ((X.drop (i + 1) ++ (M ++ X.take i)) ++ Y.getD i d :: (Y.drop (i + 1) ++ B)) := by
  rw [swp, hx, hy]; simp
 have e1 : swp A X M Y B i = ((A ++ Y.take i) ++ X.getD i d :: (X.drop (i + 1) ++ (M ++ X.take i))) ++ Y.getD i d :: (Y.drop (i + 1) ++ B) := by
  rw [e0]; simp
 have l0 : A.length + i = (A ++ Y.take i).length := by simp; omega
 have l1 : A.length + X.length + M.length + i = ((A ++ Y.take i) ++ X.getD i d :: (X.drop (i + 1) ++ (M ++ X.take i))).length := by simp; omega
 have g1 : (swp A X M Y B i).getD (A.length + X.length + M.length + i) d = Y.getD i d := by rw [e1]; exact get_at l1
 have g0 : (swp A X M Y B i).getD (A.length + i) d = X.getD i d := by rw [e0]; exact get_at l0
 rw [g0, g1, e0, set_at l0]
 have e2 : (A ++ Y.take i) ++ Y.getD i d :: ((X.drop (i + 1) ++ (M ++ X.take i)) ++ Y.getD i d :: (Y.drop (i + 1) ++ B)) = ((A ++ Y.take i) ++ Y.getD i d :: (X.drop (i + 1) ++ (M ++ X.take i))) ++ Y.getD i d :: (Y.drop (i + 1) ++ B) := by simp
 rw [e2, set_at (by rw [l1]; simp), swp, tx, ty]
 simp
theorem swp_zero {A X M Y B : List Elem} : swp A X M Y B 0 = A ++ (X ++ (M ++ (Y ++ B))) := by simp [swp]
theorem swp_all {A X M Y B : List Elem} (h : X.length = Y.length) : swp A X M Y B X.length = A ++ (Y ++ (M ++ (X ++ B))) := by
 simp only [swp]
 rw [List.take_of_length_le (by omega : Y.length ≤ X.length), List.drop_eq_nil_of_le (Nat.le_refl _), List.take_of_length_le (Nat.le_refl _), List.drop_eq_nil_of_le (by omega : Y.length ≤ X.length)]
 simp
abbrev fnT : V := .fn F.cover_minimalOf_c1 []
theorem S.swapRange (A X M Y B : List Elem) (a b k : Int) (n : Nat) (h : X.length = Y.length) (ha : a = A.length) (hb : b = A.length + X.length + M.length) (hk : k = X.length) (hl : A.length + X.length + M.length + Y.length + B.length < 2^40) :
  ACalls Tryz.prog F.slices_swapRangeCmpFunc_api_Element (V.toL [.own 0, .int a, .int b, .int k, fnT]) (h1 (A ++ (X ++ (M ++ (Y ++ B))))).toHp n (fun t hp => t = .tup [] ∧ hp = (h1 (A ++ (Y ++ (M ++ (X ++ B))))).toHp) := by
 subst ha; subst hb; subst hk
 rw [← swp_zero, ← swp_all h]
 refine SpecI.of (nx := 1) Bd.slices_swapRangeCmpFunc_api_Element (by simp) ⟨_, _, rfl, rfl⟩ rfl rfl ?_
 conv => whnf
 refine LoopZ.objs 1 [0, 1, 2, 3] (fun i : Nat => [(10, .int i)]) (fun i => [(0, rowE (swp A X M Y B i))]) (fun i => i ≤ X.length) (fun i => X.length - i) 0 [0] rfl (by decide) (fun _ => rfl) (Nat.zero_le _) ?_ ?_ ?_
 ·exact ⟨⟨_, rfl, .eq rfl⟩, trivial⟩
 ·exact ⟨⟨rfl, (fun _ => rfl), rfl, rfl, rfl, _, rfl, rfl, rfl, SubA.of_eq rfl⟩, trivial⟩
 conv => whnf
 refine ⟨⟨⟨_, rfl, .eq rfl⟩, ⟨_, rfl, .eq rfl⟩, ⟨_, rfl, .eq rfl⟩, ⟨_, rfl, .eq rfl⟩, trivial⟩, rfl, ?_⟩
 rintro i hi
 have hL := swp_len (A := A) (M := M) (B := B) (i := i) h
 conv => whnf
 refine ⟨fun h3 => ?_, fun h3 => ?_⟩
 ·have hi' : i < X.length := by simpa using h3
  have hst := swp_step (A := A) (M := M) (B := B) (d := default) h hi'
  have e1 : ((A.length : Int) + i).toNat = A.length + i := by omega
  have e2 : ((A.length : Int) + X.length + M.length + i).toNat = A.length + X.length + M.length + i := by omega
  conv => whnf
  repeat (refine VC.mk (by first | (simp only [okI]; omega) | (show (0 : Int) ≤ _ ∧ _ < ((swp A X M Y B i).length : Int); rw [hL]; omega) | (simp only [Rw.rng, List.length_set, hL]; omega)) ?_; conv => whnf)
  refine ⟨i + 1, [0], by omega, by omega, ⟨⟨_, rfl, .eq rfl⟩, trivial⟩, ⟨⟨_, rfl, .eq rfl⟩, ⟨_, rfl, .eq rfl⟩, ⟨_, rfl, .eq rfl⟩, ⟨_, rfl, .eq rfl⟩, trivial⟩, ⟨rfl, (fun _ => rfl), rfl, rfl, rfl, _, rfl, rfl, rfl, SubA.of_eq ?_⟩, trivial⟩
  rw [e1, e2, hst]
 ·have hi' : i = X.length := by
   have : ¬ ((i : Int) < (X.length : Int)) := of_decide_eq_false h3
   omega
  subst hi'
  conv => whnf
  exact EndI.one (c := 0) (j := 0) (o := rowE (swp A X M Y B X.length)) (t := .tup []) rfl rfl rfl (fun _ => rfl) (.inl rfl) trivial (.eq rfl) ⟨rfl, rfl⟩
structure RotI where
 A : List Elem
 X : List Elem
 Y : List Elem
 B : List Elem
def RotI.row (s : RotI) : List Elem := s.A ++ (s.X ++ (s.Y ++ s.B))
theorem S.rotate (A U D B : List Elem) (a m b : Int) (n : Nat) (hU : 0 < U.length) (hV : 0 < D.length) (ha : a = A.length) (hm : m = A.length + U.length) (hb : b = A.length + U.length + D.length) (hl : A.length + U.length + D.length + B.length < 2^40) :
  ACalls Tryz.prog F.slices_rotateCmpFunc_api_Element (V.toL [.own 0, .int a, .int m, .int b, fnT]) (h1 (A ++ (U ++ (D ++ B)))).toHp n (fun t hp => t = .tup [] ∧ hp = (h1 (A ++ (D ++ (U ++ B)))).toHp) := by
 subst ha; subst hm; subst hb
 refine SpecI.of (nx := 1) Bd.slices_rotateCmpFunc_api_Element (by simp) ⟨_, _, rfl, rfl⟩ rfl rfl ?_
 conv => whnf
 repeat (refine VC.mk (by simp only [okI, Rw.rng] at *; omega) ?_; conv => whnf)
 refine LoopZ.objs 1 [0, 1, 2, 3, 4] (fun s : RotI => [(10, .int s.X.length), (11, .int s.Y.length)]) (fun s => [(0, rowE s.row)]) (fun s => 0 < s.X.length ∧ 0 < s.Y.length ∧ s.A.length + s.X.length = A.length + U.length ∧ s.A.length + s.X.length + s.Y.length + s.B.length = A.length + U.length + D.length + B.length ∧ s.A ++ (s.Y ++ (s.X ++ s.B)) = A ++ (D ++ (U ++ B))) (fun s => s.X.length + s.Y.length) ⟨A, U, D, B⟩ [0] rfl (by decide) (fun _ => rfl) ⟨hU, hV, rfl, rfl, rfl⟩ ?_ ?_ ?_
 ·refine ⟨⟨_, rfl, .eq ?_⟩, ⟨_, rfl, .eq ?_⟩, trivial⟩
  ·show T.int (U.length : Int) = T.int (((A.length : Int) + U.length) - A.length)
   congr 2; omega
  ·show T.int (D.length : Int) = T.int (((A.length : Int) + U.length + D.length) - ((A.length : Int) + U.length))
   congr 2; omega
 ·exact ⟨⟨rfl, (fun _ => rfl), rfl, rfl, rfl, _, rfl, rfl, rfl, SubA.of_eq rfl⟩, trivial⟩
 conv => whnf
 refine ⟨⟨⟨_, rfl, .eq rfl⟩, ⟨_, rfl, .eq rfl⟩, ⟨_, rfl, .eq rfl⟩, ⟨_, rfl, .eq rfl⟩, ⟨_, rfl, .eq rfl⟩, trivial⟩, rfl, ?_⟩
 rintro ⟨A', X, Y, B'⟩ ⟨i1, i2, i3, i4, i5⟩
 simp only at i1 i2 i3 i4 i5
 conv => whnf
 refine ⟨fun h3 => ?_, fun h3 => ?_⟩
 ·have hne : X.length ≠ Y.length := by
   have : (X.length : Int) ≠ (Y.length : Int) := by simpa using h3
   omega
  conv => whnf
  refine ⟨fun h4 => ?_, fun h4 => ?_⟩
  ·have hgt : Y.length < X.length := by
    have : (Y.length : Int) < (X.length : Int) := of_decide_eq_true h4
    omega
   have hX : X = X.take Y.length ++ X.drop Y.length := (List.take_append_drop _ _).symm
   have l1 : (X.take Y.length).length = Y.length := by simp; omega
   have l2 : (X.drop Y.length).length = X.length - Y.length := by simp
   generalize X.take Y.length = X1 at hX l1
   generalize X.drop Y.length = X2 at hX l2
   subst hX
   conv => whnf
   refine .mk (by simp only [okI, Rw.rng] at *; omega) ?_
   conv => whnf
   refine CallZ.heapE (S.swapRange A' X1 X2 Y B' _ _ _ _ l1 (by simp only [List.length_append] at *; omega) (by simp only [List.length_append] at *; omega) (by dsimp only; omega) (by simp only [List.length_append] at *; omega)) (by simp only [RotI.row, List.append_assoc]; rfl) ?_
   rintro t hp ⟨rfl, rfl⟩
   refine ⟨.tup [], h1 _, rfl, rfl, ?_⟩
   conv => whnf
   refine .mk (by simp only [okI, Rw.rng] at *; omega) ?_
   conv => whnf
   refine ⟨⟨A' ++ Y, X2, X1, B'⟩, [0], ⟨?_, ?_, ?_, ?_, ?_⟩, ?_, ⟨⟨_, rfl, .eq ?_⟩, ⟨_, rfl, .eq ?_⟩, trivial⟩, ⟨⟨_, rfl, .eq rfl⟩, ⟨_, rfl, .eq rfl⟩, ⟨_, rfl, .eq rfl⟩, ⟨_, rfl, .eq rfl⟩, ⟨_, rfl, .eq rfl⟩, trivial⟩, ⟨rfl, (fun _ => rfl), rfl, rfl, rfl, _, rfl, rfl, rfl, SubA.of_eq ?_⟩, trivial⟩
   ·show 0 < X2.length; simp only [List.length_append] at *; omega
   ·show 0 < X1.length; omega
   ·show (A' ++ Y).length + X2.length = _; simp only [List.length_append] at *; omega
   ·show (A' ++ Y).length + X2.length + X1.length + B'.length = _; simp only [List.length_append] at *; omega
   ·show (A' ++ Y) ++ (X1 ++ (X2 ++ B')) = _; rw [← i5]; simp
   ·show X2.length + X1.length < (X1 ++ X2).length + Y.length; simp only [List.length_append] at *; omega
   ·show T.int (X2.length : Int) = T.int (((X1 ++ X2).length : Int) - Y.length); congr 2; simp only [List.length_append] at *; omega
   ·show T.int (X1.length : Int) = T.int (Y.length : Int); rw [l1]
   ·simp only [RotI.row, List.append_assoc]
  ·have hlt : X.length < Y.length := by
    have : ¬ (Y.length : Int) < (X.length : Int) := of_decide_eq_false h4
    omega
   have hY : Y = Y.take (Y.length - X.length) ++ Y.drop (Y.length - X.length) := (List.take_append_drop _ _).symm
   have l1 : (Y.take (Y.length - X.length)).length = Y.length - X.length := by simp
   have l2 : (Y.drop (Y.length - X.length)).length = X.length := by simp; omega
   generalize Y.take (Y.length - X.length) = Y1 at hY l1
   generalize Y.drop (Y.length - X.length) = Y2 at hY l2
   subst hY
   conv => whnf
   repeat (refine VC.mk (by simp only [okI, Rw.rng] at *; omega) ?_; conv => whnf)
   refine CallZ.heapE (S.swapRange A' X Y1 Y2 B' _ _ _ _ l2.symm (by simp only [List.length_append] at *; omega) (by simp only [List.length_append] at *; omega) rfl (by simp only [List.length_append] at *; omega)) (by simp only [RotI.row, List.append_assoc]; rfl) ?_
   rintro t hp ⟨rfl, rfl⟩
   refine ⟨.tup [], h1 _, rfl, rfl, ?_⟩
   conv => whnf
   refine .mk (by simp only [okI, Rw.rng] at *; omega) ?_
   conv => whnf
   refine ⟨⟨A', Y2, Y1, X ++ B'⟩, [0], ⟨?_, ?_, ?_, ?_, ?_⟩, ?_, ⟨⟨_, rfl, .eq ?_⟩, ⟨_, rfl, .eq ?_⟩, trivial⟩, ⟨⟨_, rfl, .eq rfl⟩, ⟨_, rfl, .eq rfl⟩, ⟨_, rfl, .eq rfl⟩, ⟨_, rfl, .eq rfl⟩, ⟨_, rfl, .eq rfl⟩, trivial⟩, ⟨rfl, (fun _ => rfl), rfl, rfl, rfl, _, rfl, rfl, rfl, SubA.of_eq ?_⟩, trivial⟩
   ·show 0 < Y2.length; omega
   ·show 0 < Y1.length; simp only [List.length_append] at *; omega
   ·show A'.length + Y2.length = _; omega
   ·show A'.length + Y2.length + Y1.length + (X ++ B').length = _; simp only [List.length_append] at *; omega
   ·show A' ++ (Y1 ++ (Y2 ++ (X ++ B'))) = _; rw [← i5]; simp
   ·show Y2.length + Y1.length < X.length + (Y1 ++ Y2).length; simp only [List.length_append] at *; omega
   ·show T.int (Y2.length : Int) = T.int (X.length : Int); rw [l2]
   ·show T.int (Y1.length : Int) = T.int (((Y1 ++ Y2).length : Int) - X.length); congr 2; simp only [List.length_append] at *; omega
   ·simp only [RotI.row, List.append_assoc]
 ·have heq : X.length = Y.length := by
   have : (X.length : Int) = (Y.length : Int) := by simpa using h3
   omega
  conv => whnf
  refine .mk (by simp only [okI, Rw.rng] at *; omega) ?_
  conv => whnf
  refine CallZ.heapE (S.swapRange A' X [] Y B' _ _ _ _ heq (by dsimp only; omega) (by simp only [List.length_nil]; omega) rfl (by simp only [List.length_nil]; omega)) rfl ?_
  rintro t hp ⟨rfl, rfl⟩
  refine ⟨.tup [], h1 _, rfl, rfl, ?_⟩
  conv => whnf
  refine EndI.one (c := 0) (j := 0) (o := rowE (A' ++ (Y ++ ([] ++ (X ++ B'))))) (t := .tup []) rfl rfl rfl (fun _ => rfl) (.inl rfl) trivial (.eq rfl) ⟨rfl, ?_⟩
  rw [← i5]; rfl
theorem smallE.perm {l l' : List Elem} (h : smallE l) (p : l'.Perm l) : smallE l' := fun e he => h e (p.mem_iff.1 he)
structure InsI where
 S : List Elem
 R : List Elem
theorem last_split {α : Type} : ∀ {l : List α}, 0 < l.length → ∃ l' y, l = l' ++ [y] := by
 intro l h
 rcases List.eq_nil_or_concat l with e | ⟨l', y, e⟩
 ·subst e; cases h
 ·exact ⟨l', y, by simpa using e⟩
theorem srt_ins {P Q : List Elem} {x : Elem} (h : srtT (P ++ Q)) (h1 : ∀ q ∈ Q, totE x < totE q) (h2 : ∀ P' y, P = P' ++ [y] → totE y ≤ totE x) : srtT (P ++ (x :: Q)) := by
 simp only [srtT, List.pairwise_append, List.pairwise_cons] at h ⊢
 refine ⟨h.1, ⟨fun q hq => by have := h1 q hq; omega, h.2.1⟩, fun p hp y hy => ?_⟩
 rcases List.mem_cons.1 hy with rfl | hy
 ·rcases Nat.eq_zero_or_pos P.length with e | e
  ·rw [List.length_eq_zero_iff] at e; subst e; cases hp
  ·obtain ⟨P', z, rfl⟩ := last_split e
   have hz := h2 P' z rfl
   rcases List.mem_append.1 hp with hp | hp
   ·have := (List.pairwise_append.1 h.1).2.2 p hp z (by simp)
    omega
   ·rw [List.mem_singleton] at hp; subst hp; exact hz
 ·exact h.2.2 p hp y hy
theorem S.insertion (A U B : List Elem) (a b : Int) (n : Nat) (ha : a = A.length) (hb : b = A.length + U.length) (hl : A.length + U.length + B.length < 2^40) (hs : smallE (A ++ (U ++ B))) :
  ACalls Tryz.prog F.slices_insertionSortCmpFunc_api_Element (V.toL [.own 0, .int a, .int b, fnT]) (h1 (A ++ (U ++ B))).toHp n (fun t hp => ∃ W, W.Perm U ∧ srtT W ∧ t = .tup [] ∧ hp = (h1 (A ++ (W ++ B))).toHp) := by
 subst ha; subst hb
 refine SpecI.of (nx := 1) Bd.slices_insertionSortCmpFunc_api_Element (by simp) ?_ rfl rfl ?_
 ·exact ⟨_, _, U.mergeSort (fun x y => decide (totE x ≤ totE y)), List.mergeSort_perm _ _, by
   have := List.pairwise_mergeSort (le := fun x y : Elem => decide (totE x ≤ totE y)) (fun a b c h1 h2 => by simp only [decide_eq_true_eq] at *; omega) (fun a b => by simp only [Bool.or_eq_true, decide_eq_true_eq]; omega) U
   exact this.imp (fun h => of_decide_eq_true h), rfl, rfl⟩
 conv => whnf
 refine .mk (by simp only [okI, Rw.rng] at *; first | omega | (simp_all; done) | (simp_all; omega)) ?_
 conv => whnf
 refine LoopZ.objs 1 [0, 1, 2, 3] (fun s : InsI => [(8, .int (A.length + max 1 s.S.length : Nat))]) (fun s => [(0, rowE (A ++ (s.S ++ (s.R ++ B))))]) (fun s => (s.S ++ s.R).Perm U ∧ srtT s.S ∧ (1 ≤ s.S.length ∨ U = [])) (fun s => s.R.length) ⟨U.take 1, U.drop 1⟩ [0] rfl (by decide) (fun _ => rfl) ⟨by rw [List.take_append_drop], ?_, ?_⟩ ?_ ?_ ?_
 ·rcases U with _ | ⟨u, U⟩ <;> simp [srtT]
 ·rcases U with _ | ⟨u, U⟩ <;> simp
 ·refine ⟨⟨_, rfl, .eq ?_⟩, trivial⟩
  show T.int ((A.length + max 1 (U.take 1).length : Nat) : Int) = T.int ((A.length : Int) + 1)
  rw [List.length_take, show max 1 (min 1 U.length) = 1 by omega]; rfl
 ·refine ⟨⟨rfl, (fun _ => rfl), rfl, rfl, rfl, _, rfl, rfl, rfl, SubA.of_eq ?_⟩, trivial⟩
  show (rowE (A ++ (U.take 1 ++ (U.drop 1 ++ B)))).toOb.l = _
  rw [← List.append_assoc (U.take 1), List.take_append_drop]
 conv => whnf
 refine ⟨⟨⟨_, rfl, .eq rfl⟩, ⟨_, rfl, .eq rfl⟩, ⟨_, rfl, .eq rfl⟩, ⟨_, rfl, .eq rfl⟩, trivial⟩, rfl, ?_⟩
 rintro ⟨S, R⟩ ⟨i1, i2, i3⟩
 simp only at i1 i2 i3
 have hlen : S.length + R.length = U.length := by rw [← List.length_append]; exact i1.length_eq
 conv => whnf
 refine ⟨fun h3 => ?_, fun h3 => ?_⟩
 ·have hlt : max 1 S.length < U.length := by
   have : ((A.length + max 1 S.length : Nat) : Int) < (A.length : Int) + U.length := of_decide_eq_true h3
   omega
  have hS1 : 1 ≤ S.length := by
   rcases i3 with i3 | i3
   ·exact i3
   ·subst i3; simp at hlt
  have hm : max 1 S.length = S.length := by omega
  obtain ⟨x, R', rfl⟩ : ∃ x R', R = x :: R' := by
   rcases R with _ | ⟨x, R'⟩
   ·simp at hlen; omega
   ·exact ⟨x, R', rfl⟩
  simp only [List.length_cons] at hlen
  rw [hm]
  conv => whnf
  refine LoopZ.objs 1 [0, 1, 2, 3, 8] (fun s : InsI => [(9, .int (A.length + s.S.length : Nat))]) (fun s => [(0, rowE (A ++ (s.S ++ (x :: (s.R ++ (R' ++ B))))))]) (fun s => s.S ++ s.R = S ∧ ∀ q ∈ s.R, totE x < totE q) (fun s => s.S.length) ⟨S, []⟩ [0] rfl (by decide) (fun _ => rfl) ⟨by simp, by simp⟩ ?_ ?_ ?_
  ·exact ⟨⟨_, rfl, .eq rfl⟩, trivial⟩
  ·exact ⟨⟨rfl, (fun _ => rfl), rfl, rfl, rfl, _, rfl, rfl, rfl, SubA.of_eq rfl⟩, trivial⟩
  conv => whnf
  refine ⟨⟨⟨_, rfl, .eq rfl⟩, ⟨_, rfl, .eq rfl⟩, ⟨_, rfl, .eq rfl⟩, ⟨_, rfl, .eq rfl⟩, ⟨_, rfl, .eq rfl⟩, trivial⟩, rfl, ?_⟩
  rintro ⟨P, Q⟩ ⟨j1, j2⟩
  simp only at j1 j2
  subst j1
  dsimp only
  simp only [List.length_append] at hlen hS1
  have hperm : (A ++ (P ++ (x :: (Q ++ (R' ++ B))))).Perm (A ++ (U ++ B)) := by
   refine List.Perm.append_left _ ?_
   have e1 : (P ++ (x :: (Q ++ (R' ++ B)))).Perm (((P ++ Q) ++ (x :: R')) ++ B) := by
    simp only [List.append_assoc, List.cons_append]
    exact List.Perm.append_left _ List.perm_middle.symm
   exact e1.trans (i1.append_right B)
  have hsm := hs.perm hperm
  have hL : (A ++ (P ++ (x :: (Q ++ (R' ++ B))))).length = A.length + U.length + B.length := by rw [hperm.length_eq]; simp; omega
  have gx : ∀ {k : Nat}, k = A.length + P.length → (A ++ (P ++ (x :: (Q ++ (R' ++ B))))).getD k default = x := fun {k} hk => by
   rw [← List.append_assoc]; exact get_at (by rw [hk]; simp)
  have e1 : (((A.length + P.length : Nat) : Int)).toNat = A.length + P.length := rfl
  have e2 : (((A.length + P.length : Nat) : Int) - 1).toNat = A.length + P.length - 1 := by omega
  conv => whnf
  repeat (refine VC.mk (by first | (intro h; simp only [h, Bool.and_self, Bool.and_true, Bool.true_and, true_and, imp_self]; done) | (intro h; (repeat' apply And.intro) <;> first | exact h | omega | (simp only [Rw.rngE]; omega) | (simp only [Rw.rng]; omega)) | (simp only [okI, Rw.rng] at *; first | omega | (simp_all; done) | (simp_all; omega))) ?_; conv => whnf)
  refine CallZ.pureG (fun _ => S.minimalOf_c1 _ _ (hsm.get _) (hsm.get _)) rfl ?_
  conv => whnf
  repeat (refine VC.mk (by exact fun h => h) ?_; conv => whnf)
  refine ⟨fun h4 => ?_, fun h4 => ?_⟩
  ·rw [Bool.and_eq_true] at h4
   have hP : 0 < P.length := by
    have := of_decide_eq_true h4.1
    omega
   obtain ⟨P', y, rfl⟩ := last_split hP
   have gy : ∀ {k : Nat}, k = A.length + P'.length → (A ++ (P' ++ [y] ++ (x :: (Q ++ (R' ++ B))))).getD k default = y := fun {k} hk => by
    rw [show A ++ (P' ++ [y] ++ (x :: (Q ++ (R' ++ B)))) = (A ++ P') ++ (y :: (x :: (Q ++ (R' ++ B)))) by simp]
    exact get_at (by rw [hk]; simp)
   have hlt2 := of_decide_eq_true h4.2
   rw [e1, e2, gx rfl, gy (by simp)] at hlt2
   conv => whnf
   repeat (refine VC.mk (by first | (simp only [okI]; omega) | (show (0 : Int) ≤ _ ∧ _ < ((A ++ (P' ++ [y] ++ (x :: (Q ++ (R' ++ B))))).length : Int); rw [hL]; simp only [List.length_append, List.length_cons, List.length_nil] at *; omega) | (simp only [Rw.rng, List.length_set, hL]; simp only [List.length_append, List.length_cons, List.length_nil] at *; omega)) ?_; conv => whnf)
   refine ⟨⟨P', y :: Q⟩, [0], ⟨by simp, fun q hq => ?_⟩, ?_, ⟨⟨_, rfl, .eq ?_⟩, trivial⟩, ⟨⟨_, rfl, .eq rfl⟩, ⟨_, rfl, .eq rfl⟩, ⟨_, rfl, .eq rfl⟩, ⟨_, rfl, .eq rfl⟩, ⟨_, rfl, .eq rfl⟩, trivial⟩, ⟨rfl, (fun _ => rfl), rfl, rfl, rfl, _, rfl, rfl, rfl, SubA.of_eq ?_⟩, trivial⟩
   ·rcases List.mem_cons.1 hq with rfl | hq
    ·omega
    ·exact j2 q hq
   ·show P'.length < (P' ++ [y]).length; simp
   ·show T.int ((A.length + P'.length : Nat) : Int) = T.int (((A.length + (P' ++ [y]).length : Nat) : Int) - 1)
    congr 2; simp; omega
   ·rw [e1, e2, gx rfl, gy (by simp)]
    have s1 : (A ++ (P' ++ [y] ++ (x :: (Q ++ (R' ++ B))))).set (A.length + (P' ++ [y]).length) y = (A ++ P') ++ (y :: (y :: (Q ++ (R' ++ B)))) := by
     rw [show A ++ (P' ++ [y] ++ (x :: (Q ++ (R' ++ B)))) = (A ++ (P' ++ [y])) ++ (x :: (Q ++ (R' ++ B))) by simp, set_at (by simp)]
     simp
    show (rowE (A ++ (P' ++ (x :: (y :: Q ++ (R' ++ B)))))).toOb.l = (rowE (((A ++ (P' ++ [y] ++ (x :: (Q ++ (R' ++ B))))).set (A.length + (P' ++ [y]).length) y).set (A.length + (P' ++ [y]).length - 1) x)).toOb.l
    rw [s1, set_at (by simp)]
    simp
  ·have hst := srt_ins (P := P) (Q := Q) (x := x) i2 j2 (fun P' y e => by
    subst e
    have gy : ∀ {k : Nat}, k = A.length + P'.length → (A ++ (P' ++ [y] ++ (x :: (Q ++ (R' ++ B))))).getD k default = y := fun {k} hk => by
     rw [show A ++ (P' ++ [y] ++ (x :: (Q ++ (R' ++ B)))) = (A ++ P') ++ (y :: (x :: (Q ++ (R' ++ B)))) by simp]
     exact get_at (by rw [hk]; simp)
    rw [Bool.and_eq_false_iff] at h4
    rcases h4 with h4 | h4
    ·have := of_decide_eq_false h4
     simp only [List.length_append, List.length_cons, List.length_nil] at this
     omega
    ·have := of_decide_eq_false h4
     rw [e1, e2, gx rfl, gy (by simp)] at this
     omega)
   conv => whnf
   refine .mk (by simp only [okI, Rw.rng] at *; first | omega | (simp_all; done) | (simp_all; omega)) ?_
   conv => whnf
   refine ⟨⟨P ++ (x :: Q), R'⟩, [0], ⟨?_, hst, .inl (by simp; omega)⟩, by simp, ⟨⟨_, rfl, .eq ?_⟩, trivial⟩, ⟨⟨_, rfl, .eq rfl⟩, ⟨_, rfl, .eq rfl⟩, ⟨_, rfl, .eq rfl⟩, ⟨_, rfl, .eq rfl⟩, trivial⟩, ⟨rfl, (fun _ => rfl), rfl, rfl, rfl, _, rfl, rfl, rfl, SubA.of_eq ?_⟩, trivial⟩
   ·have e1 : (P ++ (x :: Q) ++ R').Perm ((P ++ Q) ++ (x :: R')) := by
     simp only [List.append_assoc, List.cons_append]
     exact List.Perm.append_left _ List.perm_middle.symm
    exact e1.trans i1
   ·show T.int ((A.length + max 1 (P ++ (x :: Q)).length : Nat) : Int) = T.int (((A.length + (P ++ Q).length : Nat) : Int) + 1)
    congr 2; simp; omega
   ·show (rowE (A ++ ((P ++ (x :: Q)) ++ (R' ++ B)))).toOb.l = _
    simp
 ·have hR : R = [] := by
   have : ¬ ((A.length + max 1 S.length : Nat) : Int) < (A.length : Int) + U.length := of_decide_eq_false h3
   rcases R with _ | ⟨x, R'⟩
   ·rfl
   ·exfalso
    simp only [List.length_cons] at hlen
    rcases i3 with i3 | i3
    ·omega
    ·subst i3; simp at hlen
  subst hR
  conv => whnf
  exact EndI.one (c := 0) (j := 0) (o := rowE (A ++ (S ++ ([] ++ B)))) (t := .tup []) rfl rfl rfl (fun _ => rfl) (.inl rfl) trivial (.eq rfl) ⟨S, by simpa using i1, i2, rfl, rfl⟩
theorem srt_exists (l : List Elem) : ∃ W, W.Perm l ∧ srtT W := ⟨l.mergeSort (fun x y => decide (totE x ≤ totE y)), List.mergeSort_perm _ _, by
 have := List.pairwise_mergeSort (le := fun x y : Elem => decide (totE x ≤ totE y)) (fun a b c h1 h2 => by simp only [decide_eq_true_eq] at *; omega) (fun a b => by simp only [Bool.or_eq_true, decide_eq_true_eq]; omega) l
 exact this.imp (fun h => of_decide_eq_true h)⟩
theorem srt_get {l : List Elem} (h : srtT l) {i j : Nat} (hij : i ≤ j) (hj : j < l.length) : totE (l.getD i default) ≤ totE (l.getD j default) := by
 rcases Nat.lt_or_ge i j with hlt | hge
 ·have := List.pairwise_iff_getElem.1 h i j (by omega) hj hlt
  simpa [show i < l.length by omega, hj] using this
 ·rw [show i = j by omega]; exact Int.le_refl _
theorem take_get {l : List Elem} {k : Nat} {x : Elem} (h : x ∈ l.take k) : ∃ i, i < k ∧ i < l.length ∧ x = l.getD i default := by
 rw [List.mem_take_iff_getElem] at h
 obtain ⟨i, hi, rfl⟩ := h
 exact ⟨i, by omega, by omega, by simp [show i < l.length by omega]⟩
theorem drop_get {l : List Elem} {k : Nat} {x : Elem} (h : x ∈ l.drop k) : ∃ i, k ≤ i ∧ i < l.length ∧ x = l.getD i default := by
 rw [List.mem_drop_iff_getElem] at h
 obtain ⟨i, hi, rfl⟩ := h
 exact ⟨k + i, by omega, by omega, by simp [show k + i < l.length by omega]⟩
theorem srt_mid {l : List Elem} {x : Elem} {p : Nat} (h : srtT l) (hp : p ≤ l.length) (h1 : p = 0 ∨ totE (l.getD (p - 1) default) ≤ totE x) (h2 : p = l.length ∨ totE x ≤ totE (l.getD p default)) : srtT (l.take p ++ (x :: l.drop p)) := by
 have a1 : ∀ y ∈ l.take p, totE y ≤ totE x := fun y hy => by
  obtain ⟨i, e1, e2, rfl⟩ := take_get hy
  rcases h1 with h1 | h1
  ·omega
  ·have := srt_get h (i := i) (j := p - 1) (by omega) (by omega); omega
 have a2 : ∀ y ∈ l.drop p, totE x ≤ totE y := fun y hy => by
  obtain ⟨i, e1, e2, rfl⟩ := drop_get hy
  rcases h2 with h2 | h2
  ·omega
  ·have := srt_get h (i := p) (j := i) e1 e2; omega
 simp only [srtT, List.pairwise_append, List.pairwise_cons]
 refine ⟨List.Pairwise.sublist (List.take_sublist _ _) h, ⟨a2, List.Pairwise.sublist (List.drop_sublist _ _) h⟩, fun y hy z hz => ?_⟩
 rcases List.mem_cons.1 hz with rfl | hz
 ·exact a1 y hy
 ·have := a1 y hy; have := a2 z hz; omega
theorem perm_mid {l : List Elem} {x : Elem} {p : Nat} : (l.take p ++ (x :: l.drop p)).Perm (x :: l) := by
 refine List.perm_middle.trans ?_
 rw [List.take_append_drop]
theorem get_seg {P Q R : List Elem} {k i : Nat} (hi : i < Q.length) (hk : k = P.length + i) : (P ++ (Q ++ R)).getD k default = Q.getD i default := by
 subst hk
 rw [List.getD_eq_getElem?_getD, List.getElem?_append_right (by omega), show P.length + i - P.length = i by omega, List.getElem?_append_left hi, List.getD_eq_getElem?_getD]
structure Seek where
 p : Nat
 q : Nat
theorem S.symMerge1 (A : List Elem) (x : Elem) (D B : List Elem) (n : Nat) (hD : 0 < D.length) (sD : srtT D) (hl : A.length + 1 + D.length + B.length < 2^40) (hs : smallE (A ++ ([x] ++ (D ++ B)))) :
  ACalls Tryz.prog F.slices_symMergeCmpFunc_api_Element (V.toL [.own 0, .int A.length, .int (A.length + 1 : Nat), .int (A.length + 1 + D.length : Nat), fnT]) (h1 (A ++ ([x] ++ (D ++ B)))).toHp n (fun t hp => ∃ W, W.Perm ([x] ++ D) ∧ srtT W ∧ t = .tup [] ∧ hp = (h1 (A ++ (W ++ B))).toHp) := by
 have gx : ∀ {k : Nat}, k = A.length → (A ++ ([x] ++ (D ++ B))).getD k default = x := fun {k} hk => get_at hk
 have gd : ∀ {k i : Nat}, i < D.length → k = A.length + 1 + i → (A ++ ([x] ++ (D ++ B))).getD k default = D.getD i default := fun {k i} hi hk => by
  rw [← List.append_assoc]; exact get_seg hi (by rw [hk]; simp)
 have hL : (A ++ ([x] ++ (D ++ B))).length = A.length + 1 + D.length + B.length := by simp; omega
 obtain ⟨W0, w1, w2⟩ := srt_exists ([x] ++ D)
 refine SpecI.of (nx := 1) Bd.slices_symMergeCmpFunc_api_Element (by simp) ⟨_, _, W0, w1, w2, rfl, rfl⟩ rfl rfl ?_
 conv => whnf
 refine .mk (by simp only [okI, Rw.rng] at *; omega) ?_
 conv => whnf
 refine Fork.mk (fun _ => ?_) (fun q => absurd (q.symm.trans ((by simp only [beq_iff_eq]; omega))) Bool.false_ne_true)
 conv => whnf
 refine LoopZ.same [0, 1, 2, 3, 4] (fun s : Seek => [(10, .int (A.length + 1 + s.p : Nat)), (11, .int (A.length + 1 + s.q : Nat))]) (fun s => s.p ≤ s.q ∧ s.q ≤ D.length ∧ (s.p = 0 ∨ totE (D.getD (s.p - 1) default) < totE x) ∧ (s.q = D.length ∨ totE x ≤ totE (D.getD s.q default))) (fun s => s.q - s.p) ⟨0, D.length⟩ rfl (by decide) rfl (fun _ => rfl) ⟨Nat.zero_le _, Nat.le_refl _, .inl rfl, .inl rfl⟩ ⟨⟨_, rfl, rfl⟩, ⟨_, rfl, rfl⟩, trivial⟩ ?_
 conv => whnf
 refine ⟨rfl, ?_⟩
 rintro ⟨p, q⟩ ⟨i1, i2, i3, i4⟩
 simp only at i1 i2 i3 i4
 dsimp only
 conv => whnf
 refine ⟨fun h3 => ?_, fun h3 => ?_⟩
 ·have hpq : p < q := by
   have := of_decide_eq_true h3; omega
  have hc : ((((A.length + 1 + p : Nat) : Int) + ((A.length + 1 + q : Nat) : Int)) / 2) = ((A.length + 1 + (p + q) / 2 : Nat) : Int) := by omega
  conv => whnf
  repeat (refine VC.mk (by first | (simp only [okI]; omega) | omega | (simp only [Rw.rng, hL]; omega)) ?_; conv => whnf)
  rw [hc]
  conv => whnf
  refine CallZ.pure (S.minimalOf_c1 _ _ (hs.get _) (hs.get _)) rfl ?_
  conv => whnf
  have e1 : (((A.length + 1 + (p + q) / 2 : Nat) : Int)).toNat = A.length + 1 + (p + q) / 2 := rfl
  have e2 : ((A.length : Int)).toNat = A.length := rfl
  refine ⟨fun h4 => ?_, fun h4 => ?_⟩
  ·have h5 := of_decide_eq_true h4
   rw [e1, e2, gx rfl, gd (show (p + q) / 2 < D.length by omega) rfl] at h5
   conv => whnf
   refine .mk (by first | (simp only [okI]; omega) | omega) ?_
   conv => whnf
   refine ⟨⟨(p + q) / 2 + 1, q⟩, ⟨by show (p + q) / 2 + 1 ≤ q; omega, i2, .inr ?_, i4⟩, by show q - ((p + q) / 2 + 1) < q - p; omega, ⟨⟨_, rfl, ?_⟩, ⟨_, rfl, rfl⟩, trivial⟩, ?_, rfl⟩
   ·show totE (D.getD ((p + q) / 2 + 1 - 1) default) < totE x
    rw [Nat.add_sub_cancel]; omega
   ·show T.int ((A.length + 1 + ((p + q) / 2 + 1) : Nat) : Int) = T.int (((A.length + 1 + (p + q) / 2 : Nat) : Int) + 1)
    congr 2
   ·repeat' (first | exact trivial | exact ⟨_, rfl, rfl⟩ | constructor)
  ·have h5 := of_decide_eq_false h4
   rw [e1, e2, gx rfl, gd (show (p + q) / 2 < D.length by omega) rfl] at h5
   conv => whnf
   refine ⟨⟨p, (p + q) / 2⟩, ⟨by show p ≤ (p + q) / 2; omega, by show (p + q) / 2 ≤ D.length; omega, i3, .inr ?_⟩, by show (p + q) / 2 - p < q - p; omega, ⟨⟨_, rfl, rfl⟩, ⟨_, rfl, rfl⟩, trivial⟩, ?_, rfl⟩
   ·show totE x ≤ totE (D.getD ((p + q) / 2) default); omega
   ·repeat' (first | exact trivial | exact ⟨_, rfl, rfl⟩ | constructor)
 ·have hpq : p = q := by
   have := of_decide_eq_false h3; omega
  subst hpq
  have hst := srt_mid (x := x) sD i2 (by rcases i3 with i3 | i3; exact .inl i3; exact .inr (by omega)) i4
  conv => whnf
  refine LoopZ.objs 1 [0, 1, 2, 3, 4, 10] (fun c : Nat => [(13, .int (A.length + c : Nat))]) (fun c => [(0, rowE (A ++ (D.take c ++ (x :: (D.drop c ++ B)))))]) (fun c => c ≤ p) (fun c => p - c) 0 [0] rfl (by decide) (fun _ => rfl) (Nat.zero_le _) ?_ ?_ ?_
  ·exact ⟨⟨_, rfl, .eq rfl⟩, trivial⟩
  ·exact ⟨⟨rfl, (fun _ => rfl), rfl, rfl, rfl, _, rfl, rfl, rfl, SubA.of_eq rfl⟩, trivial⟩
  conv => whnf
  refine ⟨⟨⟨_, rfl, .eq rfl⟩, ⟨_, rfl, .eq rfl⟩, ⟨_, rfl, .eq rfl⟩, ⟨_, rfl, .eq rfl⟩, ⟨_, rfl, .eq rfl⟩, ⟨_, rfl, .eq rfl⟩, trivial⟩, rfl, ?_⟩
  rintro c hc
  have hLc : (A ++ (D.take c ++ (x :: (D.drop c ++ B)))).length = A.length + 1 + D.length + B.length := by simp; omega
  conv => whnf
  refine .mk (by first | (simp only [okI]; omega) | omega) ?_
  conv => whnf
  refine ⟨fun h5 => ?_, fun h5 => ?_⟩
  ·have hcp : c < p := by
    have := of_decide_eq_true h5; omega
   have hcd : c < D.length := by omega
   have hd := drop_getD default hcd
   have ht : D.take (c + 1) = D.take c ++ [D.getD c default] := by rw [List.take_add_one]; simp [hcd]
   have r0 : A ++ (D.take c ++ (x :: (D.drop c ++ B))) = (A ++ D.take c) ++ (x :: (D.getD c default :: (D.drop (c + 1) ++ B))) := by rw [hd]; simp
   have l0 : A.length + c = (A ++ D.take c).length := by simp; omega
   have e1 : (((A.length + c : Nat) : Int)).toNat = A.length + c := rfl
   have e2 : (((A.length + c : Nat) : Int) + 1).toNat = A.length + c + 1 := rfl
   have g1 : (A ++ (D.take c ++ (x :: (D.drop c ++ B)))).getD (A.length + c) default = x := by rw [r0]; exact get_at l0
   have g2 : (A ++ (D.take c ++ (x :: (D.drop c ++ B)))).getD (A.length + c + 1) default = D.getD c default := by
    rw [r0, show (A ++ D.take c) ++ (x :: (D.getD c default :: (D.drop (c + 1) ++ B))) = ((A ++ D.take c) ++ [x]) ++ (D.getD c default :: (D.drop (c + 1) ++ B)) by simp]
    exact get_at (by simp only [List.length_append, List.length_cons, List.length_nil, List.length_take]; omega)
   conv => whnf
   repeat (refine VC.mk (by first | (simp only [okI]; omega) | omega | (simp only [Rw.rng, List.length_set, hLc]; omega)) ?_; conv => whnf)
   refine ⟨c + 1, [0], by omega, by omega, ⟨⟨_, rfl, .eq ?_⟩, trivial⟩, ⟨⟨_, rfl, .eq rfl⟩, ⟨_, rfl, .eq rfl⟩, ⟨_, rfl, .eq rfl⟩, ⟨_, rfl, .eq rfl⟩, ⟨_, rfl, .eq rfl⟩, ⟨_, rfl, .eq rfl⟩, trivial⟩, ⟨rfl, (fun _ => rfl), rfl, rfl, rfl, _, rfl, rfl, rfl, SubA.of_eq ?_⟩, trivial⟩
   ·show T.int ((A.length + (c + 1) : Nat) : Int) = T.int (((A.length + c : Nat) : Int) + 1)
    congr 2
   ·rw [e1, e2, g1, g2, r0, set_at l0, show (A ++ D.take c) ++ (D.getD c default :: (D.getD c default :: (D.drop (c + 1) ++ B))) = ((A ++ D.take c) ++ [D.getD c default]) ++ (D.getD c default :: (D.drop (c + 1) ++ B)) by simp, set_at (by simp only [List.length_append, List.length_cons, List.length_nil, List.length_take]; omega), ht]
    simp
  ·have hcp : c = p := by
    have := of_decide_eq_false h5; omega
   subst hcp
   conv => whnf
   exact EndI.one (c := 0) (j := 0) (o := rowE (A ++ (D.take c ++ (x :: (D.drop c ++ B))))) (t := .tup []) rfl rfl rfl (fun _ => rfl) (.inl rfl) trivial (.eq rfl) ⟨_, perm_mid, hst, rfl, by simp⟩
theorem S.symMerge2 (A : List Elem) (x : Elem) (U B : List Elem) (n : Nat) (hU : 1 < U.length) (sU : srtT U) (hl : A.length + U.length + 1 + B.length < 2^40) (hs : smallE (A ++ (U ++ ([x] ++ B)))) :
  ACalls Tryz.prog F.slices_symMergeCmpFunc_api_Element (V.toL [.own 0, .int A.length, .int (A.length + U.length : Nat), .int (A.length + U.length + 1 : Nat), fnT]) (h1 (A ++ (U ++ ([x] ++ B)))).toHp n (fun t hp => ∃ W, W.Perm (U ++ [x]) ∧ srtT W ∧ t = .tup [] ∧ hp = (h1 (A ++ (W ++ B))).toHp) := by
 have gx : ∀ {k : Nat}, k = A.length + U.length → (A ++ (U ++ ([x] ++ B))).getD k default = x := fun {k} hk => by
  rw [← List.append_assoc]; exact get_at (by rw [hk]; simp)
 have gd : ∀ {k i : Nat}, i < U.length → k = A.length + i → (A ++ (U ++ ([x] ++ B))).getD k default = U.getD i default := fun {k i} hi hk => get_seg hi hk
 have hL : (A ++ (U ++ ([x] ++ B))).length = A.length + U.length + 1 + B.length := by simp; omega
 obtain ⟨W0, w1, w2⟩ := srt_exists (U ++ [x])
 refine SpecI.of (nx := 1) Bd.slices_symMergeCmpFunc_api_Element (by simp) ⟨_, _, W0, w1, w2, rfl, rfl⟩ rfl rfl ?_
 conv => whnf
 refine .mk (by simp only [okI, Rw.rng] at *; omega) ?_
 conv => whnf
 refine Fork.mk (fun q => absurd (q.symm.trans ((by simp only [beq_eq_false_iff_ne]; omega))).symm Bool.false_ne_true) (fun _ => ?_)
 conv => whnf
 refine .mk (by simp only [okI, Rw.rng] at *; omega) ?_
 conv => whnf
 refine Fork.mk (fun _ => ?_) (fun q => absurd (q.symm.trans ((by simp only [beq_iff_eq]; omega))) Bool.false_ne_true)
 conv => whnf
 refine LoopZ.same [0, 1, 2, 3, 4] (fun s : Seek => [(14, .int (A.length + s.p : Nat)), (15, .int (A.length + s.q : Nat))]) (fun s => s.p ≤ s.q ∧ s.q ≤ U.length ∧ (s.p = 0 ∨ totE (U.getD (s.p - 1) default) ≤ totE x) ∧ (s.q = U.length ∨ totE x < totE (U.getD s.q default))) (fun s => s.q - s.p) ⟨0, U.length⟩ rfl (by decide) rfl (fun _ => rfl) ⟨Nat.zero_le _, Nat.le_refl _, .inl rfl, .inl rfl⟩ ⟨⟨_, rfl, rfl⟩, ⟨_, rfl, rfl⟩, trivial⟩ ?_
 conv => whnf
 refine ⟨rfl, ?_⟩
 rintro ⟨p, q⟩ ⟨i1, i2, i3, i4⟩
 simp only at i1 i2 i3 i4
 dsimp only
 conv => whnf
 refine ⟨fun h3 => ?_, fun h3 => ?_⟩
 ·have hpq : p < q := by
   have := of_decide_eq_true h3; omega
  have hc : ((((A.length + p : Nat) : Int) + ((A.length + q : Nat) : Int)) / 2) = ((A.length + (p + q) / 2 : Nat) : Int) := by omega
  conv => whnf
  repeat (refine VC.mk (by first | (simp only [okI]; omega) | omega | (simp only [Rw.rng, hL]; omega)) ?_; conv => whnf)
  rw [hc]
  conv => whnf
  refine CallZ.pure (S.minimalOf_c1 _ _ (hs.get _) (hs.get _)) rfl ?_
  conv => whnf
  have e1 : (((A.length + (p + q) / 2 : Nat) : Int)).toNat = A.length + (p + q) / 2 := rfl
  have e2 : (((A.length + U.length : Nat) : Int)).toNat = A.length + U.length := rfl
  refine ⟨fun h4 => ?_, fun h4 => ?_⟩
  ·rw [Bool.not_eq_true'] at h4
   have h5 := of_decide_eq_false h4
   rw [e1, e2, gx rfl, gd (show (p + q) / 2 < U.length by omega) rfl] at h5
   conv => whnf
   refine .mk (by first | (simp only [okI]; omega) | omega) ?_
   conv => whnf
   refine ⟨⟨(p + q) / 2 + 1, q⟩, ⟨by show (p + q) / 2 + 1 ≤ q; omega, i2, .inr ?_, i4⟩, by show q - ((p + q) / 2 + 1) < q - p; omega, ⟨⟨_, rfl, ?_⟩, ⟨_, rfl, rfl⟩, trivial⟩, ?_, rfl⟩
   ·show totE (U.getD ((p + q) / 2 + 1 - 1) default) ≤ totE x
    rw [Nat.add_sub_cancel]; omega
   ·show T.int ((A.length + ((p + q) / 2 + 1) : Nat) : Int) = T.int (((A.length + (p + q) / 2 : Nat) : Int) + 1)
    congr 2
   ·repeat' (first | exact trivial | exact ⟨_, rfl, rfl⟩ | constructor)
  ·rw [Bool.not_eq_false'] at h4
   have h5 := of_decide_eq_true h4
   rw [e1, e2, gx rfl, gd (show (p + q) / 2 < U.length by omega) rfl] at h5
   conv => whnf
   refine ⟨⟨p, (p + q) / 2⟩, ⟨by show p ≤ (p + q) / 2; omega, by show (p + q) / 2 ≤ U.length; omega, i3, .inr ?_⟩, by show (p + q) / 2 - p < q - p; omega, ⟨⟨_, rfl, rfl⟩, ⟨_, rfl, rfl⟩, trivial⟩, ?_, rfl⟩
   ·show totE x < totE (U.getD ((p + q) / 2) default); omega
   ·repeat' (first | exact trivial | exact ⟨_, rfl, rfl⟩ | constructor)
 ·have hpq : p = q := by
   have := of_decide_eq_false h3; omega
  subst hpq
  have hst := srt_mid (x := x) sU i2 i3 (by rcases i4 with i4 | i4; exact .inl i4; exact .inr (by omega))
  conv => whnf
  refine LoopZ.objs 1 [0, 1, 2, 3, 4, 14] (fun c : Nat => [(17, .int (A.length + c : Nat))]) (fun c => [(0, rowE (A ++ (U.take c ++ (x :: (U.drop c ++ B)))))]) (fun c => p ≤ c ∧ c ≤ U.length) (fun c => c) U.length [0] rfl (by decide) (fun _ => rfl) ⟨i2, Nat.le_refl _⟩ ?_ ?_ ?_
  ·exact ⟨⟨_, rfl, .eq rfl⟩, trivial⟩
  ·refine ⟨⟨rfl, (fun _ => rfl), rfl, rfl, rfl, _, rfl, rfl, rfl, SubA.of_eq ?_⟩, trivial⟩
   rw [List.take_of_length_le (Nat.le_refl _), List.drop_eq_nil_of_le (Nat.le_refl _)]; rfl
  conv => whnf
  refine ⟨⟨⟨_, rfl, .eq rfl⟩, ⟨_, rfl, .eq rfl⟩, ⟨_, rfl, .eq rfl⟩, ⟨_, rfl, .eq rfl⟩, ⟨_, rfl, .eq rfl⟩, ⟨_, rfl, .eq rfl⟩, trivial⟩, rfl, ?_⟩
  rintro c ⟨hc0, hc⟩
  have hLc : (A ++ (U.take c ++ (x :: (U.drop c ++ B)))).length = A.length + U.length + 1 + B.length := by simp; omega
  conv => whnf
  refine ⟨fun h5 => ?_, fun h5 => ?_⟩
  ·obtain ⟨c, rfl⟩ : ∃ k, c = k + 1 := ⟨c - 1, by have := of_decide_eq_true h5; omega⟩
   have hcp : p < c + 1 := by
    have := of_decide_eq_true h5; omega
   have hcd : c < U.length := by omega
   have hd := drop_getD default hcd
   have ht : U.take (c + 1) = U.take c ++ [U.getD c default] := by rw [List.take_add_one]; simp [hcd]
   have r0 : A ++ (U.take (c + 1) ++ (x :: (U.drop (c + 1) ++ B))) = (A ++ U.take c) ++ (U.getD c default :: (x :: (U.drop (c + 1) ++ B))) := by rw [ht]; simp
   have l0 : A.length + c = (A ++ U.take c).length := by simp; omega
   have e1 : (((A.length + (c + 1) : Nat) : Int)).toNat = A.length + c + 1 := rfl
   have e2 : (((A.length + (c + 1) : Nat) : Int) - 1).toNat = A.length + c := by omega
   have g1 : (A ++ (U.take (c + 1) ++ (x :: (U.drop (c + 1) ++ B)))).getD (A.length + c) default = U.getD c default := by rw [r0]; exact get_at l0
   have g2 : (A ++ (U.take (c + 1) ++ (x :: (U.drop (c + 1) ++ B)))).getD (A.length + c + 1) default = x := by
    rw [r0, show (A ++ U.take c) ++ (U.getD c default :: (x :: (U.drop (c + 1) ++ B))) = ((A ++ U.take c) ++ [U.getD c default]) ++ (x :: (U.drop (c + 1) ++ B)) by simp]
    exact get_at (by simp only [List.length_append, List.length_cons, List.length_nil, List.length_take]; omega)
   conv => whnf
   repeat (refine VC.mk (by first | (simp only [okI]; omega) | omega | (simp only [Rw.rng, List.length_set, hLc]; omega)) ?_; conv => whnf)
   refine ⟨c, [0], ⟨by omega, by omega⟩, by omega, ⟨⟨_, rfl, .eq ?_⟩, trivial⟩, ⟨⟨_, rfl, .eq rfl⟩, ⟨_, rfl, .eq rfl⟩, ⟨_, rfl, .eq rfl⟩, ⟨_, rfl, .eq rfl⟩, ⟨_, rfl, .eq rfl⟩, ⟨_, rfl, .eq rfl⟩, trivial⟩, ⟨rfl, (fun _ => rfl), rfl, rfl, rfl, _, rfl, rfl, rfl, SubA.of_eq ?_⟩, trivial⟩
   ·show T.int ((A.length + c : Nat) : Int) = T.int (((A.length + (c + 1) : Nat) : Int) - 1)
    congr 2; omega
   ·rw [e1, e2, g1, g2, r0, show (A ++ U.take c) ++ (U.getD c default :: (x :: (U.drop (c + 1) ++ B))) = ((A ++ U.take c) ++ [U.getD c default]) ++ (x :: (U.drop (c + 1) ++ B)) by simp, set_at (by simp only [List.length_append, List.length_cons, List.length_nil, List.length_take]; omega), show ((A ++ U.take c) ++ [U.getD c default]) ++ (U.getD c default :: (U.drop (c + 1) ++ B)) = (A ++ U.take c) ++ (U.getD c default :: (U.getD c default :: (U.drop (c + 1) ++ B))) by simp, set_at l0, hd]
    simp
  ·have hcp : c = p := by
    have := of_decide_eq_false h5; omega
   subst hcp
   conv => whnf
   exact EndI.one (c := 0) (j := 0) (o := rowE (A ++ (U.take c ++ (x :: (U.drop c ++ B))))) (t := .tup []) rfl rfl rfl (fun _ => rfl) (.inl rfl) trivial (.eq rfl) ⟨_, perm_mid.trans (List.perm_append_comm (l₁ := [x])), hst, rfl, by simp⟩
theorem halves {U D : List Elem} {su ve : Nat} (sU : srtT U) (sD : srtT D) (h1 : su ≤ U.length) (h2 : ve ≤ D.length)
  (f1 : su = 0 ∨ ve = D.length ∨ totE (U.getD (su - 1) default) ≤ totE (D.getD ve default)) (f2 : ve = 0 ∨ su = U.length ∨ totE (D.getD (ve - 1) default) ≤ totE (U.getD su default)) :
  ∀ x ∈ U.take su ++ D.take ve, ∀ y ∈ U.drop su ++ D.drop ve, totE x ≤ totE y := by
 intro x hx y hy
 rcases List.mem_append.1 hx with hx | hx <;> rcases List.mem_append.1 hy with hy | hy
 ·obtain ⟨i, a1, a2, rfl⟩ := take_get hx
  obtain ⟨j, b1, b2, rfl⟩ := drop_get hy
  exact srt_get sU (by omega) b2
 ·obtain ⟨i, a1, a2, rfl⟩ := take_get hx
  obtain ⟨j, b1, b2, rfl⟩ := drop_get hy
  rcases f1 with f1 | f1 | f1
  ·omega
  ·omega
  ·have g1 := srt_get sU (i := i) (j := su - 1) (by omega) (by omega)
   have g2 := srt_get sD (i := ve) (j := j) b1 b2
   omega
 ·obtain ⟨i, a1, a2, rfl⟩ := take_get hx
  obtain ⟨j, b1, b2, rfl⟩ := drop_get hy
  rcases f2 with f2 | f2 | f2
  ·omega
  ·omega
  ·have g1 := srt_get sD (i := i) (j := ve - 1) (by omega) (by omega)
   have g2 := srt_get sU (i := su) (j := j) b1 b2
   omega
 ·obtain ⟨i, a1, a2, rfl⟩ := take_get hx
  obtain ⟨j, b1, b2, rfl⟩ := drop_get hy
  exact srt_get sD (by omega) b2
theorem srt_two {W1 W2 X Y : List Elem} (h1 : srtT W1) (h2 : srtT W2) (p1 : W1.Perm X) (p2 : W2.Perm Y) (h : ∀ x ∈ X, ∀ y ∈ Y, totE x ≤ totE y) : srtT (W1 ++ W2) := by
 simp only [srtT, List.pairwise_append]
 exact ⟨h1, h2, fun x hx y hy => h x (p1.mem_iff.1 hx) y (p2.mem_iff.1 hy)⟩
theorem srt_part {U D : List Elem} (sU : srtT U) (sD : srtT D) (h : U = [] ∨ D = []) : srtT (U ++ D) := by
 rcases h with rfl | rfl
 ·simpa using sD
 ·simpa using sU
theorem perm_halves {U1 U2 D1 D2 W1 W2 : List Elem} (p1 : W1.Perm (U1 ++ D1)) (p2 : W2.Perm (U2 ++ D2)) : (W1 ++ W2).Perm ((U1 ++ U2) ++ (D1 ++ D2)) := by
 refine (p1.append p2).trans ?_
 simp only [List.append_assoc]
 refine List.Perm.append_left _ ?_
 rw [← List.append_assoc, ← List.append_assoc]
 exact List.perm_append_comm.append_right D2
structure SeekI where
 s : Int
 t : Int
set_option maxHeartbeats 4000000 in
theorem S.symMerge : ∀ (N : Nat) (A U D B : List Elem) (a m b : Int) (n : Nat), U.length + D.length ≤ N → 0 < U.length → 0 < D.length → srtT U → srtT D → a = A.length → m = A.length + U.length → b = A.length + U.length + D.length → A.length + U.length + D.length + B.length < 2^40 → smallE (A ++ (U ++ (D ++ B))) →
  ACalls Tryz.prog F.slices_symMergeCmpFunc_api_Element (V.toL [.own 0, .int a, .int m, .int b, fnT]) (h1 (A ++ (U ++ (D ++ B)))).toHp n (fun t hp => ∃ W, W.Perm (U ++ D) ∧ srtT W ∧ t = .tup [] ∧ hp = (h1 (A ++ (W ++ B))).toHp) := by
 intro N
 induction N with
 | zero => intro A U D B a m b n h1 h2 h3; omega
 | succ N ih =>
  intro A U D B a m b n hN hU hD sU sD ha hm hb hl hs
  by_cases e1 : U.length = 1
  ·obtain ⟨x, rfl⟩ := List.length_eq_one_iff.1 e1
   have := S.symMerge1 A x D B n hD sD (by simp at hl ⊢; omega) hs
   subst ha; subst hm; subst hb
   exact this
  by_cases e2 : D.length = 1
  ·obtain ⟨x, rfl⟩ := List.length_eq_one_iff.1 e2
   have := S.symMerge2 A x U B n (by omega) sU (by simp at hl ⊢; omega) hs
   subst ha; subst hm; subst hb
   exact this
  obtain ⟨W0, w1, w2⟩ := srt_exists (U ++ D)
  obtain ⟨L, hLd⟩ : ∃ L, L = A ++ (U ++ (D ++ B)) := ⟨_, rfl⟩
  have hL : L.length = A.length + U.length + D.length + B.length := by rw [hLd]; simp; omega
  have hsL : smallE L := by rw [hLd]; exact hs
  have gu : ∀ {k : Int} {i : Nat}, i < U.length → k = A.length + i → L.getD k.toNat default = U.getD i default := fun {k i} hi hk => by
   rw [hLd]; exact get_seg hi (by omega)
  have gv : ∀ {k : Int} {i : Nat}, i < D.length → k = m + i → L.getD k.toNat default = D.getD i default := fun {k i} hi hk => by
   rw [hLd, ← List.append_assoc]; exact get_seg hi (by rw [List.length_append]; omega)
  refine SpecI.of (nx := 1) Bd.slices_symMergeCmpFunc_api_Element (by simp) ⟨_, _, W0, w1, w2, rfl, rfl⟩ rfl rfl ?_
  rw [← hLd]
  conv => whnf
  refine .mk (by first | (simp only [okI]; omega) | omega) ?_
  conv => whnf
  refine Fork.mk (fun q => absurd (q.symm.trans ((by simp only [beq_eq_false_iff_ne]; omega))).symm Bool.false_ne_true) (fun _ => ?_)
  conv => whnf
  refine .mk (by simp only [okI, Rw.rng] at *; omega) ?_
  conv => whnf
  refine Fork.mk (fun q => absurd (q.symm.trans ((by simp only [beq_eq_false_iff_ne]; omega))).symm Bool.false_ne_true) (fun _ => ?_)
  conv => whnf
  repeat (refine VC.mk (by first | (omega) | (simp only [okI, Rw.rng] at *; omega)) ?_; conv => whnf)
  obtain ⟨M, hM⟩ : ∃ M, M = (a + b) / 2 := ⟨_, rfl⟩
  rw [← hM]
  refine ⟨fun h3 => ?_, fun h3 => ?_⟩
  ·have hMm : M < m := of_decide_eq_true h3
   obtain ⟨s0, hs0'⟩ : ∃ s0, s0 = M + m - b := ⟨_, rfl⟩
   obtain ⟨r0, hr0'⟩ : ∃ r0, r0 = M := ⟨_, rfl⟩
   have hsr : s0 ≤ r0 := by omega
   have hp1 : ∀ c, s0 ≤ c → c < r0 → a ≤ c ∧ c < m ∧ m ≤ M + m - 1 - c ∧ M + m - 1 - c < b := by intro c q1 q2; omega
   have hb1 : ∀ {s : Int}, s = s0 → ∀ su ve : Nat, s = A.length + su → M - s = ve → su = 0 ∨ ve = D.length := by intro s q su ve q1 q2; omega
   have hb2 : ∀ {s : Int}, s = r0 → ∀ su ve : Nat, s = A.length + su → M - s = ve → ve = 0 ∨ su = U.length := by intro s q su ve q1 q2; omega
   have hs0 : (V.int s0).toT = (V.int (M + m - b)).toT := by rw [hs0']
   have hr0 : (V.int r0).toT = (V.int M).toT := by rw [hr0']
   conv => whnf
   repeat (refine VC.mk (by first | (simp only [okI]; omega) | omega) ?_; conv => whnf)
   refine LoopZ.same [0, 1, 2, 3, 4, 18, 19, 22] (fun i : SeekI => [(20, .int i.s), (21, .int i.t)]) (fun i => s0 ≤ i.s ∧ i.s ≤ i.t ∧ i.t ≤ r0 ∧ (i.s = s0 ∨ totE (L.getD (i.s - 1).toNat default) ≤ totE (L.getD (M + m - 1 - (i.s - 1)).toNat default)) ∧ (i.t = r0 ∨ totE (L.getD (M + m - 1 - i.t).toNat default) < totE (L.getD i.t.toNat default))) (fun i => (i.t - i.s).toNat) ⟨s0, r0⟩ rfl (by decide) rfl (fun _ => rfl) ⟨Int.le_refl _, hsr, Int.le_refl _, .inl rfl, .inl rfl⟩ ⟨⟨_, rfl, hs0⟩, ⟨_, rfl, hr0⟩, trivial⟩ ?_
   conv => whnf
   refine ⟨rfl, ?_⟩
   rintro ⟨s, t⟩ ⟨i1, i2, i3, i4, i5⟩
   simp only at i1 i2 i3 i4 i5
   dsimp only
   conv => whnf
   refine ⟨fun h4 => ?_, fun h4 => ?_⟩
   ·have hst : s < t := of_decide_eq_true h4
    conv => whnf
    repeat (refine VC.mk (by first | (first | (simp only [okI]; omega) | omega) | (simp only [okI, Rw.rng] at *; omega)) ?_; conv => whnf)
    obtain ⟨c, hc⟩ : ∃ c, c = (s + t) / 2 := ⟨_, rfl⟩
    rw [← hc]
    have hc1 : s ≤ c ∧ c < t := by omega
    have hrg := hp1 c (by omega) (by omega)
    conv => whnf
    refine CallZ.pure (S.minimalOf_c1 _ _ (hsL.get _) (hsL.get _)) rfl ?_
    conv => whnf
    refine ⟨fun h5 => ?_, fun h5 => ?_⟩
    ·rw [Bool.not_eq_true'] at h5
     have h6 := of_decide_eq_false h5
     conv => whnf
     refine .mk (by first | (simp only [okI]; omega) | omega) ?_
     conv => whnf
     refine ⟨⟨c + 1, t⟩, ⟨by show s0 ≤ c + 1; omega, by show c + 1 ≤ t; omega, i3, .inr ?_, i5⟩, by show (t - (c + 1)).toNat < (t - s).toNat; omega, ⟨⟨_, rfl, rfl⟩, ⟨_, rfl, rfl⟩, trivial⟩, ?_, rfl⟩
     ·show totE (L.getD (c + 1 - 1).toNat default) ≤ totE (L.getD (M + m - 1 - (c + 1 - 1)).toNat default)
      rw [show c + 1 - 1 = c by omega]; omega
     ·repeat' (first | exact trivial | exact ⟨_, rfl, rfl⟩ | constructor)
    ·rw [Bool.not_eq_false'] at h5
     have h6 := of_decide_eq_true h5
     conv => whnf
     refine ⟨⟨s, c⟩, ⟨i1, by show s ≤ c; omega, by show c ≤ r0; omega, i4, .inr ?_⟩, by show (c - s).toNat < (t - s).toNat; omega, ⟨⟨_, rfl, rfl⟩, ⟨_, rfl, rfl⟩, trivial⟩, ?_, rfl⟩
     ·show totE (L.getD (M + m - 1 - c).toNat default) < totE (L.getD c.toNat default)
      omega
     ·repeat' (first | exact trivial | exact ⟨_, rfl, rfl⟩ | constructor)
   have hst : s = t := by
    have := of_decide_eq_false h4; omega
   subst hst
   obtain ⟨su, hsu⟩ : ∃ su : Nat, s = A.length + su := ⟨(s - A.length).toNat, by omega⟩
   obtain ⟨ve, hve⟩ : ∃ ve : Nat, M - s = ve := ⟨(M - s).toNat, by omega⟩
   have lu : su ≤ U.length := by omega
   have lv : ve ≤ D.length := by omega
   have hHV := halves sU sD lu lv (by
    rcases i4 with i4 | i4
    ·rcases hb1 i4 su ve hsu hve with e | e
     ·exact .inl e
     ·exact .inr (.inl e)
    ·by_cases e0 : su = 0
     ·exact .inl e0
     by_cases e1 : ve = D.length
     ·exact .inr (.inl e1)
     refine .inr (.inr ?_)
     rw [gu (k := s - 1) (i := su - 1) (by omega) (by omega), gv (k := M + m - 1 - (s - 1)) (i := ve) (by omega) (by omega)] at i4
     exact i4) (by
    rcases i5 with i5 | i5
    ·rcases hb2 i5 su ve hsu hve with e | e
     ·exact .inl e
     ·exact .inr (.inl e)
    ·by_cases e0 : ve = 0
     ·exact .inl e0
     by_cases e1 : su = U.length
     ·exact .inr (.inl e1)
     refine .inr (.inr ?_)
     rw [gu (k := s) (i := su) (by omega) (by omega), gv (k := M + m - 1 - s) (i := ve - 1) (by omega) (by omega)] at i5
     omega)
   obtain ⟨U1, hU1⟩ : ∃ X, X = U.take su := ⟨_, rfl⟩
   obtain ⟨U2, hU2⟩ : ∃ X, X = U.drop su := ⟨_, rfl⟩
   obtain ⟨D1, hD1⟩ : ∃ X, X = D.take ve := ⟨_, rfl⟩
   obtain ⟨D2, hD2⟩ : ∃ X, X = D.drop ve := ⟨_, rfl⟩
   have l1 : U1.length = su := by rw [hU1, List.length_take]; omega
   have l2 : U2.length = U.length - su := by rw [hU2, List.length_drop]
   have l3 : D1.length = ve := by rw [hD1, List.length_take]; omega
   have l4 : D2.length = D.length - ve := by rw [hD2, List.length_drop]
   have sU1 : srtT U1 := by rw [hU1]; exact List.Pairwise.sublist (List.take_sublist _ _) sU
   have sU2 : srtT U2 := by rw [hU2]; exact List.Pairwise.sublist (List.drop_sublist _ _) sU
   have sD1 : srtT D1 := by rw [hD1]; exact List.Pairwise.sublist (List.take_sublist _ _) sD
   have sD2 : srtT D2 := by rw [hD2]; exact List.Pairwise.sublist (List.drop_sublist _ _) sD
   have hU : U = U1 ++ U2 := by rw [hU1, hU2, List.take_append_drop]
   have hD : D = D1 ++ D2 := by rw [hD1, hD2, List.take_append_drop]
   rw [← hU1, ← hD1, ← hU2, ← hD2] at hHV
   clear hU1 hU2 hD1 hD2 i4 i5 h4
   have hUD : A ++ (U ++ (D ++ B)) = A ++ ((U1 ++ U2) ++ ((D1 ++ D2) ++ B)) := by rw [← hU, ← hD]
   conv => whnf
   repeat (refine VC.mk (by first | (first | (simp only [okI]; omega) | omega) | exact fun h => h | exact fun h => ⟨h, h⟩) ?_; conv => whnf)
   rw [hLd]
   have hhp : ((U1 ++ D1) ++ (U2 ++ D2)).Perm ((U1 ++ U2) ++ (D1 ++ D2)) := perm_halves (List.Perm.refl _) (List.Perm.refl _)
   have hsB : ∀ W1 : List Elem, W1.Perm (U1 ++ D1) → smallE ((A ++ W1) ++ (U2 ++ (D2 ++ B))) := fun W1 pW => hs.perm (by
    have := ((pW.append_right (U2 ++ D2)).trans hhp).append_right B
    rw [hUD, List.append_assoc]
    exact List.Perm.append_left _ (by simpa using this))
   have hsA := hsB (U1 ++ D1) (List.Perm.refl _)
   rw [show (A ++ (U1 ++ D1)) ++ (U2 ++ (D2 ++ B)) = A ++ (U1 ++ (D1 ++ (U2 ++ (D2 ++ B)))) by simp] at hsA
   have hlB : ∀ W1 : List Elem, W1.Perm (U1 ++ D1) → W1.length = su + ve := fun W1 pW => by rw [pW.length_eq, List.length_append]; omega
   have hA1 : ∀ W1 : List Elem, W1.length = su + ve → ((A ++ W1).length : Int) = M := fun W1 h => by rw [List.length_append, h]; omega
   have hl2 : ∀ W1 : List Elem, W1.length = su + ve → (A ++ W1).length + U2.length + D2.length + B.length < 2^40 := fun W1 h => by rw [List.length_append, h]; omega
   have hMb : M + U2.length = M + m - s ∧ M + U2.length + D2.length = b ∧ U2.length + D2.length ≤ N ∧ U1.length + D1.length ≤ N ∧ a + U1.length = s ∧ s + D1.length = M := by omega
   obtain ⟨hb3, hb4, hn2, hn1, hb5, hb6⟩ := hMb
   refine ⟨fun h6 => ?_, fun h6 => ?_⟩
   ·rw [Bool.and_eq_true, decide_eq_true_eq, decide_eq_true_eq] at h6
    conv => whnf
    refine CallZ.heapE (S.rotate (A ++ U1) U2 D1 (D2 ++ B) _ _ _ _ (by omega) (by omega) (by rw [List.length_append]; omega) (by rw [List.length_append]; omega) (by rw [List.length_append]; omega) (by simp only [List.length_append]; omega)) (by rw [hUD]; simp only [List.append_assoc]) ?_
    rintro t hp ⟨rfl, rfl⟩
    refine ⟨.tup [], h1 (A ++ (U1 ++ (D1 ++ (U2 ++ (D2 ++ B))))), rfl, by rw [List.append_assoc], ?_⟩
    conv => whnf
    repeat (refine VC.mk (by first | exact fun h => h | exact fun h => ⟨h, h⟩) ?_; conv => whnf)
    refine ⟨fun h7 => ?_, fun h7 => ?_⟩
    ·rw [Bool.and_eq_true, decide_eq_true_eq, decide_eq_true_eq] at h7
     conv => whnf
     refine CallZ.heapE (ih A U1 D1 (U2 ++ (D2 ++ B)) _ _ _ _ hn1 (by omega) (by omega) sU1 sD1 ha (by omega) (by omega) (by simp only [List.length_append]; omega) hsA) rfl ?_
     rintro t hp ⟨W1, pW1, sW1, rfl, rfl⟩
     have lW1 := hlB W1 pW1
     refine ⟨.tup [], h1 _, rfl, rfl, ?_⟩
     conv => whnf
     repeat (refine VC.mk (by first | exact fun h => h | exact fun h => ⟨h, h⟩) ?_; conv => whnf)
     refine ⟨fun h8 => ?_, fun h8 => ?_⟩
     ·rw [Bool.and_eq_true, decide_eq_true_eq, decide_eq_true_eq] at h8
      conv => whnf
      refine CallZ.heapE (ih (A ++ W1) U2 D2 B _ _ _ _ hn2 (by omega) (by omega) sU2 sD2 (hA1 W1 lW1).symm (by rw [hA1 W1 lW1, hb3]) (by rw [hA1 W1 lW1, hb4]) (hl2 W1 lW1) (hsB W1 pW1)) (by rw [List.append_assoc]) ?_
      rintro t hp ⟨W2, pW2, sW2, rfl, rfl⟩
      refine ⟨.tup [], h1 _, rfl, rfl, ?_⟩
      conv => whnf
      exact EndI.one (c := 0) (j := 0) (o := rowE ((A ++ W1) ++ (W2 ++ B))) (t := .tup []) rfl rfl rfl (fun _ => rfl) (.inl rfl) trivial (.eq rfl) ⟨W1 ++ W2, by rw [hU, hD]; exact perm_halves pW1 pW2, srt_two sW1 sW2 pW1 pW2 hHV, rfl, by simp⟩
     ·have sW2 : srtT (U2 ++ D2) := srt_part sU2 sD2 (by
       rw [Bool.and_eq_false_iff, decide_eq_false_iff_not, decide_eq_false_iff_not] at h8
       rcases h8 with h8 | h8
       ·exact .inl (List.eq_nil_of_length_eq_zero (by omega))
       ·exact .inr (List.eq_nil_of_length_eq_zero (by omega)))
      have pW2 : (U2 ++ D2).Perm (U2 ++ D2) := List.Perm.refl _
      conv => whnf
      exact EndI.one (c := 0) (j := 0) (o := rowE (A ++ (W1 ++ (U2 ++ (D2 ++ B))))) (t := .tup []) rfl rfl rfl (fun _ => rfl) (.inl rfl) trivial (.eq rfl) ⟨W1 ++ (U2 ++ D2), by rw [hU, hD]; exact perm_halves pW1 pW2, srt_two sW1 sW2 pW1 pW2 hHV, rfl, by simp⟩
    ·have sW1 : srtT (U1 ++ D1) := srt_part sU1 sD1 (by
      rw [Bool.and_eq_false_iff, decide_eq_false_iff_not, decide_eq_false_iff_not] at h7
      rcases h7 with h7 | h7
      ·exact .inl (List.eq_nil_of_length_eq_zero (by omega))
      ·exact .inr (List.eq_nil_of_length_eq_zero (by omega)))
     have pW1 : (U1 ++ D1).Perm (U1 ++ D1) := List.Perm.refl _
     obtain ⟨W1, hW1⟩ : ∃ W1, W1 = U1 ++ D1 := ⟨_, rfl⟩
     rw [show A ++ (U1 ++ (D1 ++ (U2 ++ (D2 ++ B)))) = A ++ (W1 ++ (U2 ++ (D2 ++ B))) by rw [hW1, List.append_assoc]]
     rw [← hW1] at sW1
     replace pW1 : W1.Perm (U1 ++ D1) := by rw [hW1]
     have lW1 := hlB W1 pW1
     conv => whnf
     repeat (refine VC.mk (by first | exact fun h => h | exact fun h => ⟨h, h⟩) ?_; conv => whnf)
     refine ⟨fun h8 => ?_, fun h8 => ?_⟩
     ·rw [Bool.and_eq_true, decide_eq_true_eq, decide_eq_true_eq] at h8
      conv => whnf
      refine CallZ.heapE (ih (A ++ W1) U2 D2 B _ _ _ _ hn2 (by omega) (by omega) sU2 sD2 (hA1 W1 lW1).symm (by rw [hA1 W1 lW1, hb3]) (by rw [hA1 W1 lW1, hb4]) (hl2 W1 lW1) (hsB W1 pW1)) (by rw [List.append_assoc]) ?_
      rintro t hp ⟨W2, pW2, sW2, rfl, rfl⟩
      refine ⟨.tup [], h1 _, rfl, rfl, ?_⟩
      conv => whnf
      exact EndI.one (c := 0) (j := 0) (o := rowE ((A ++ W1) ++ (W2 ++ B))) (t := .tup []) rfl rfl rfl (fun _ => rfl) (.inl rfl) trivial (.eq rfl) ⟨W1 ++ W2, by rw [hU, hD]; exact perm_halves pW1 pW2, srt_two sW1 sW2 pW1 pW2 hHV, rfl, by simp⟩
     ·have sW2 : srtT (U2 ++ D2) := srt_part sU2 sD2 (by
       rw [Bool.and_eq_false_iff, decide_eq_false_iff_not, decide_eq_false_iff_not] at h8
       rcases h8 with h8 | h8
       ·exact .inl (List.eq_nil_of_length_eq_zero (by omega))
       ·exact .inr (List.eq_nil_of_length_eq_zero (by omega)))
      have pW2 : (U2 ++ D2).Perm (U2 ++ D2) := List.Perm.refl _
      conv => whnf
      exact EndI.one (c := 0) (j := 0) (o := rowE (A ++ (W1 ++ (U2 ++ (D2 ++ B))))) (t := .tup []) rfl rfl rfl (fun _ => rfl) (.inl rfl) trivial (.eq rfl) ⟨W1 ++ (U2 ++ D2), by rw [hU, hD]; exact perm_halves pW1 pW2, srt_two sW1 sW2 pW1 pW2 hHV, rfl, by simp⟩
   ·rw [show A ++ (U ++ (D ++ B)) = A ++ (U1 ++ (D1 ++ (U2 ++ (D2 ++ B)))) by
     rw [hUD]
     rw [Bool.and_eq_false_iff, decide_eq_false_iff_not, decide_eq_false_iff_not] at h6
     rcases h6 with h6 | h6
     ·rw [List.eq_nil_of_length_eq_zero (show U2.length = 0 by omega)]; simp
     ·rw [List.eq_nil_of_length_eq_zero (show D1.length = 0 by omega)]; simp]
    conv => whnf
    repeat (refine VC.mk (by first | exact fun h => h | exact fun h => ⟨h, h⟩) ?_; conv => whnf)
    refine ⟨fun h7 => ?_, fun h7 => ?_⟩
    ·rw [Bool.and_eq_true, decide_eq_true_eq, decide_eq_true_eq] at h7
     conv => whnf
     refine CallZ.heapE (ih A U1 D1 (U2 ++ (D2 ++ B)) _ _ _ _ hn1 (by omega) (by omega) sU1 sD1 ha (by omega) (by omega) (by simp only [List.length_append]; omega) hsA) rfl ?_
     rintro t hp ⟨W1, pW1, sW1, rfl, rfl⟩
     have lW1 := hlB W1 pW1
     refine ⟨.tup [], h1 _, rfl, rfl, ?_⟩
     conv => whnf
     repeat (refine VC.mk (by first | exact fun h => h | exact fun h => ⟨h, h⟩) ?_; conv => whnf)
     refine ⟨fun h8 => ?_, fun h8 => ?_⟩
     ·rw [Bool.and_eq_true, decide_eq_true_eq, decide_eq_true_eq] at h8
      conv => whnf
      refine CallZ.heapE (ih (A ++ W1) U2 D2 B _ _ _ _ hn2 (by omega) (by omega) sU2 sD2 (hA1 W1 lW1).symm (by rw [hA1 W1 lW1, hb3]) (by rw [hA1 W1 lW1, hb4]) (hl2 W1 lW1) (hsB W1 pW1)) (by rw [List.append_assoc]) ?_
      rintro t hp ⟨W2, pW2, sW2, rfl, rfl⟩
      refine ⟨.tup [], h1 _, rfl, rfl, ?_⟩
      conv => whnf
      exact EndI.one (c := 0) (j := 0) (o := rowE ((A ++ W1) ++ (W2 ++ B))) (t := .tup []) rfl rfl rfl (fun _ => rfl) (.inl rfl) trivial (.eq rfl) ⟨W1 ++ W2, by rw [hU, hD]; exact perm_halves pW1 pW2, srt_two sW1 sW2 pW1 pW2 hHV, rfl, by simp⟩
     ·have sW2 : srtT (U2 ++ D2) := srt_part sU2 sD2 (by
       rw [Bool.and_eq_false_iff, decide_eq_false_iff_not, decide_eq_false_iff_not] at h8
       rcases h8 with h8 | h8
       ·exact .inl (List.eq_nil_of_length_eq_zero (by omega))
       ·exact .inr (List.eq_nil_of_length_eq_zero (by omega)))
      have pW2 : (U2 ++ D2).Perm (U2 ++ D2) := List.Perm.refl _
      conv => whnf
      exact EndI.one (c := 0) (j := 0) (o := rowE (A ++ (W1 ++ (U2 ++ (D2 ++ B))))) (t := .tup []) rfl rfl rfl (fun _ => rfl) (.inl rfl) trivial (.eq rfl) ⟨W1 ++ (U2 ++ D2), by rw [hU, hD]; exact perm_halves pW1 pW2, srt_two sW1 sW2 pW1 pW2 hHV, rfl, by simp⟩
    ·have sW1 : srtT (U1 ++ D1) := srt_part sU1 sD1 (by
      rw [Bool.and_eq_false_iff, decide_eq_false_iff_not, decide_eq_false_iff_not] at h7
      rcases h7 with h7 | h7
      ·exact .inl (List.eq_nil_of_length_eq_zero (by omega))
      ·exact .inr (List.eq_nil_of_length_eq_zero (by omega)))
     have pW1 : (U1 ++ D1).Perm (U1 ++ D1) := List.Perm.refl _
     obtain ⟨W1, hW1⟩ : ∃ W1, W1 = U1 ++ D1 := ⟨_, rfl⟩
     rw [show A ++ (U1 ++ (D1 ++ (U2 ++ (D2 ++ B)))) = A ++ (W1 ++ (U2 ++ (D2 ++ B))) by rw [hW1, List.append_assoc]]
     rw [← hW1] at sW1
     replace pW1 : W1.Perm (U1 ++ D1) := by rw [hW1]
     have lW1 := hlB W1 pW1
     conv => whnf
     repeat (refine VC.mk (by first | exact fun h => h | exact fun h => ⟨h, h⟩) ?_; conv => whnf)
     refine ⟨fun h8 => ?_, fun h8 => ?_⟩
     ·rw [Bool.and_eq_true, decide_eq_true_eq, decide_eq_true_eq] at h8
      conv => whnf
      refine CallZ.heapE (ih (A ++ W1) U2 D2 B _ _ _ _ hn2 (by omega) (by omega) sU2 sD2 (hA1 W1 lW1).symm (by rw [hA1 W1 lW1, hb3]) (by rw [hA1 W1 lW1, hb4]) (hl2 W1 lW1) (hsB W1 pW1)) (by rw [List.append_assoc]) ?_
      rintro t hp ⟨W2, pW2, sW2, rfl, rfl⟩
      refine ⟨.tup [], h1 _, rfl, rfl, ?_⟩
      conv => whnf
      exact EndI.one (c := 0) (j := 0) (o := rowE ((A ++ W1) ++ (W2 ++ B))) (t := .tup []) rfl rfl rfl (fun _ => rfl) (.inl rfl) trivial (.eq rfl) ⟨W1 ++ W2, by rw [hU, hD]; exact perm_halves pW1 pW2, srt_two sW1 sW2 pW1 pW2 hHV, rfl, by simp⟩
     ·have sW2 : srtT (U2 ++ D2) := srt_part sU2 sD2 (by
       rw [Bool.and_eq_false_iff, decide_eq_false_iff_not, decide_eq_false_iff_not] at h8
       rcases h8 with h8 | h8
       ·exact .inl (List.eq_nil_of_length_eq_zero (by omega))
       ·exact .inr (List.eq_nil_of_length_eq_zero (by omega)))
      have pW2 : (U2 ++ D2).Perm (U2 ++ D2) := List.Perm.refl _
      conv => whnf
      exact EndI.one (c := 0) (j := 0) (o := rowE (A ++ (W1 ++ (U2 ++ (D2 ++ B))))) (t := .tup []) rfl rfl rfl (fun _ => rfl) (.inl rfl) trivial (.eq rfl) ⟨W1 ++ (U2 ++ D2), by rw [hU, hD]; exact perm_halves pW1 pW2, srt_two sW1 sW2 pW1 pW2 hHV, rfl, by simp⟩
  ·have hMm : m ≤ M := by have := of_decide_eq_false h3; omega
   obtain ⟨s0, hs0'⟩ : ∃ s0, s0 = a := ⟨_, rfl⟩
   obtain ⟨r0, hr0'⟩ : ∃ r0, r0 = m := ⟨_, rfl⟩
   have hsr : s0 ≤ r0 := by omega
   have hp1 : ∀ c, s0 ≤ c → c < r0 → a ≤ c ∧ c < m ∧ m ≤ M + m - 1 - c ∧ M + m - 1 - c < b := by intro c q1 q2; omega
   have hb1 : ∀ {s : Int}, s = s0 → ∀ su ve : Nat, s = A.length + su → M - s = ve → su = 0 ∨ ve = D.length := by intro s q su ve q1 q2; omega
   have hb2 : ∀ {s : Int}, s = r0 → ∀ su ve : Nat, s = A.length + su → M - s = ve → ve = 0 ∨ su = U.length := by intro s q su ve q1 q2; omega
   have hs0 : (V.int s0).toT = (V.int a).toT := by rw [hs0']
   have hr0 : (V.int r0).toT = (V.int m).toT := by rw [hr0']
   conv => whnf
   refine .mk (by first | (simp only [okI]; omega) | omega) ?_
   conv => whnf
   refine LoopZ.same [0, 1, 2, 3, 4, 18, 19, 22] (fun i : SeekI => [(20, .int i.s), (21, .int i.t)]) (fun i => s0 ≤ i.s ∧ i.s ≤ i.t ∧ i.t ≤ r0 ∧ (i.s = s0 ∨ totE (L.getD (i.s - 1).toNat default) ≤ totE (L.getD (M + m - 1 - (i.s - 1)).toNat default)) ∧ (i.t = r0 ∨ totE (L.getD (M + m - 1 - i.t).toNat default) < totE (L.getD i.t.toNat default))) (fun i => (i.t - i.s).toNat) ⟨s0, r0⟩ rfl (by decide) rfl (fun _ => rfl) ⟨Int.le_refl _, hsr, Int.le_refl _, .inl rfl, .inl rfl⟩ ⟨⟨_, rfl, hs0⟩, ⟨_, rfl, hr0⟩, trivial⟩ ?_
   conv => whnf
   refine ⟨rfl, ?_⟩
   rintro ⟨s, t⟩ ⟨i1, i2, i3, i4, i5⟩
   simp only at i1 i2 i3 i4 i5
   dsimp only
   conv => whnf
   refine ⟨fun h4 => ?_, fun h4 => ?_⟩
   ·have hst : s < t := of_decide_eq_true h4
    conv => whnf
    repeat (refine VC.mk (by first | (first | (simp only [okI]; omega) | omega) | (simp only [okI, Rw.rng] at *; omega)) ?_; conv => whnf)
    obtain ⟨c, hc⟩ : ∃ c, c = (s + t) / 2 := ⟨_, rfl⟩
    rw [← hc]
    have hc1 : s ≤ c ∧ c < t := by omega
    have hrg := hp1 c (by omega) (by omega)
    conv => whnf
    refine CallZ.pure (S.minimalOf_c1 _ _ (hsL.get _) (hsL.get _)) rfl ?_
    conv => whnf
    refine ⟨fun h5 => ?_, fun h5 => ?_⟩
    ·rw [Bool.not_eq_true'] at h5
     have h6 := of_decide_eq_false h5
     conv => whnf
     refine .mk (by first | (simp only [okI]; omega) | omega) ?_
     conv => whnf
     refine ⟨⟨c + 1, t⟩, ⟨by show s0 ≤ c + 1; omega, by show c + 1 ≤ t; omega, i3, .inr ?_, i5⟩, by show (t - (c + 1)).toNat < (t - s).toNat; omega, ⟨⟨_, rfl, rfl⟩, ⟨_, rfl, rfl⟩, trivial⟩, ?_, rfl⟩
     ·show totE (L.getD (c + 1 - 1).toNat default) ≤ totE (L.getD (M + m - 1 - (c + 1 - 1)).toNat default)
      rw [show c + 1 - 1 = c by omega]; omega
     ·repeat' (first | exact trivial | exact ⟨_, rfl, rfl⟩ | constructor)
    ·rw [Bool.not_eq_false'] at h5
     have h6 := of_decide_eq_true h5
     conv => whnf
     refine ⟨⟨s, c⟩, ⟨i1, by show s ≤ c; omega, by show c ≤ r0; omega, i4, .inr ?_⟩, by show (c - s).toNat < (t - s).toNat; omega, ⟨⟨_, rfl, rfl⟩, ⟨_, rfl, rfl⟩, trivial⟩, ?_, rfl⟩
     ·show totE (L.getD (M + m - 1 - c).toNat default) < totE (L.getD c.toNat default)
      omega
     ·repeat' (first | exact trivial | exact ⟨_, rfl, rfl⟩ | constructor)
   have hst : s = t := by
    have := of_decide_eq_false h4; omega
   subst hst
   obtain ⟨su, hsu⟩ : ∃ su : Nat, s = A.length + su := ⟨(s - A.length).toNat, by omega⟩
   obtain ⟨ve, hve⟩ : ∃ ve : Nat, M - s = ve := ⟨(M - s).toNat, by omega⟩
   have lu : su ≤ U.length := by omega
   have lv : ve ≤ D.length := by omega
   have hHV := halves sU sD lu lv (by
    rcases i4 with i4 | i4
    ·rcases hb1 i4 su ve hsu hve with e | e
     ·exact .inl e
     ·exact .inr (.inl e)
    ·by_cases e0 : su = 0
     ·exact .inl e0
     by_cases e1 : ve = D.length
     ·exact .inr (.inl e1)
     refine .inr (.inr ?_)
     rw [gu (k := s - 1) (i := su - 1) (by omega) (by omega), gv (k := M + m - 1 - (s - 1)) (i := ve) (by omega) (by omega)] at i4
     exact i4) (by
    rcases i5 with i5 | i5
    ·rcases hb2 i5 su ve hsu hve with e | e
     ·exact .inl e
     ·exact .inr (.inl e)
    ·by_cases e0 : ve = 0
     ·exact .inl e0
     by_cases e1 : su = U.length
     ·exact .inr (.inl e1)
     refine .inr (.inr ?_)
     rw [gu (k := s) (i := su) (by omega) (by omega), gv (k := M + m - 1 - s) (i := ve - 1) (by omega) (by omega)] at i5
     omega)
   obtain ⟨U1, hU1⟩ : ∃ X, X = U.take su := ⟨_, rfl⟩
   obtain ⟨U2, hU2⟩ : ∃ X, X = U.drop su := ⟨_, rfl⟩
   obtain ⟨D1, hD1⟩ : ∃ X, X = D.take ve := ⟨_, rfl⟩
   obtain ⟨D2, hD2⟩ : ∃ X, X = D.drop ve := ⟨_, rfl⟩
   have l1 : U1.length = su := by rw [hU1, List.length_take]; omega
   have l2 : U2.length = U.length - su := by rw [hU2, List.length_drop]
   have l3 : D1.length = ve := by rw [hD1, List.length_take]; omega
   have l4 : D2.length = D.length - ve := by rw [hD2, List.length_drop]
   have sU1 : srtT U1 := by rw [hU1]; exact List.Pairwise.sublist (List.take_sublist _ _) sU
   have sU2 : srtT U2 := by rw [hU2]; exact List.Pairwise.sublist (List.drop_sublist _ _) sU
   have sD1 : srtT D1 := by rw [hD1]; exact List.Pairwise.sublist (List.take_sublist _ _) sD
   have sD2 : srtT D2 := by rw [hD2]; exact List.Pairwise.sublist (List.drop_sublist _ _) sD
   have hU : U = U1 ++ U2 := by rw [hU1, hU2, List.take_append_drop]
   have hD : D = D1 ++ D2 := by rw [hD1, hD2, List.take_append_drop]
   rw [← hU1, ← hD1, ← hU2, ← hD2] at hHV
   clear hU1 hU2 hD1 hD2 i4 i5 h4
   have hUD : A ++ (U ++ (D ++ B)) = A ++ ((U1 ++ U2) ++ ((D1 ++ D2) ++ B)) := by rw [← hU, ← hD]
   conv => whnf
   repeat (refine VC.mk (by first | (first | (simp only [okI]; omega) | omega) | exact fun h => h | exact fun h => ⟨h, h⟩) ?_; conv => whnf)
   rw [hLd]
   have hhp : ((U1 ++ D1) ++ (U2 ++ D2)).Perm ((U1 ++ U2) ++ (D1 ++ D2)) := perm_halves (List.Perm.refl _) (List.Perm.refl _)
   have hsB : ∀ W1 : List Elem, W1.Perm (U1 ++ D1) → smallE ((A ++ W1) ++ (U2 ++ (D2 ++ B))) := fun W1 pW => hs.perm (by
    have := ((pW.append_right (U2 ++ D2)).trans hhp).append_right B
    rw [hUD, List.append_assoc]
    exact List.Perm.append_left _ (by simpa using this))
   have hsA := hsB (U1 ++ D1) (List.Perm.refl _)
   rw [show (A ++ (U1 ++ D1)) ++ (U2 ++ (D2 ++ B)) = A ++ (U1 ++ (D1 ++ (U2 ++ (D2 ++ B)))) by simp] at hsA
   have hlB : ∀ W1 : List Elem, W1.Perm (U1 ++ D1) → W1.length = su + ve := fun W1 pW => by rw [pW.length_eq, List.length_append]; omega
   have hA1 : ∀ W1 : List Elem, W1.length = su + ve → ((A ++ W1).length : Int) = M := fun W1 h => by rw [List.length_append, h]; omega
   have hl2 : ∀ W1 : List Elem, W1.length = su + ve → (A ++ W1).length + U2.length + D2.length + B.length < 2^40 := fun W1 h => by rw [List.length_append, h]; omega
   have hMb : M + U2.length = M + m - s ∧ M + U2.length + D2.length = b ∧ U2.length + D2.length ≤ N ∧ U1.length + D1.length ≤ N ∧ a + U1.length = s ∧ s + D1.length = M := by omega
   obtain ⟨hb3, hb4, hn2, hn1, hb5, hb6⟩ := hMb
   refine ⟨fun h6 => ?_, fun h6 => ?_⟩
   ·rw [Bool.and_eq_true, decide_eq_true_eq, decide_eq_true_eq] at h6
    conv => whnf
    refine CallZ.heapE (S.rotate (A ++ U1) U2 D1 (D2 ++ B) _ _ _ _ (by omega) (by omega) (by rw [List.length_append]; omega) (by rw [List.length_append]; omega) (by rw [List.length_append]; omega) (by simp only [List.length_append]; omega)) (by rw [hUD]; simp only [List.append_assoc]) ?_
    rintro t hp ⟨rfl, rfl⟩
    refine ⟨.tup [], h1 (A ++ (U1 ++ (D1 ++ (U2 ++ (D2 ++ B))))), rfl, by rw [List.append_assoc], ?_⟩
    conv => whnf
    repeat (refine VC.mk (by first | exact fun h => h | exact fun h => ⟨h, h⟩) ?_; conv => whnf)
    refine ⟨fun h7 => ?_, fun h7 => ?_⟩
    ·rw [Bool.and_eq_true, decide_eq_true_eq, decide_eq_true_eq] at h7
     conv => whnf
     refine CallZ.heapE (ih A U1 D1 (U2 ++ (D2 ++ B)) _ _ _ _ hn1 (by omega) (by omega) sU1 sD1 ha (by omega) (by omega) (by simp only [List.length_append]; omega) hsA) rfl ?_
     rintro t hp ⟨W1, pW1, sW1, rfl, rfl⟩
     have lW1 := hlB W1 pW1
     refine ⟨.tup [], h1 _, rfl, rfl, ?_⟩
     conv => whnf
     repeat (refine VC.mk (by first | exact fun h => h | exact fun h => ⟨h, h⟩) ?_; conv => whnf)
     refine ⟨fun h8 => ?_, fun h8 => ?_⟩
     ·rw [Bool.and_eq_true, decide_eq_true_eq, decide_eq_true_eq] at h8
      conv => whnf
      refine CallZ.heapE (ih (A ++ W1) U2 D2 B _ _ _ _ hn2 (by omega) (by omega) sU2 sD2 (hA1 W1 lW1).symm (by rw [hA1 W1 lW1, hb3]) (by rw [hA1 W1 lW1, hb4]) (hl2 W1 lW1) (hsB W1 pW1)) (by rw [List.append_assoc]) ?_
      rintro t hp ⟨W2, pW2, sW2, rfl, rfl⟩
      refine ⟨.tup [], h1 _, rfl, rfl, ?_⟩
      conv => whnf
      exact EndI.one (c := 0) (j := 0) (o := rowE ((A ++ W1) ++ (W2 ++ B))) (t := .tup []) rfl rfl rfl (fun _ => rfl) (.inl rfl) trivial (.eq rfl) ⟨W1 ++ W2, by rw [hU, hD]; exact perm_halves pW1 pW2, srt_two sW1 sW2 pW1 pW2 hHV, rfl, by simp⟩
     ·have sW2 : srtT (U2 ++ D2) := srt_part sU2 sD2 (by
       rw [Bool.and_eq_false_iff, decide_eq_false_iff_not, decide_eq_false_iff_not] at h8
       rcases h8 with h8 | h8
       ·exact .inl (List.eq_nil_of_length_eq_zero (by omega))
       ·exact .inr (List.eq_nil_of_length_eq_zero (by omega)))
      have pW2 : (U2 ++ D2).Perm (U2 ++ D2) := List.Perm.refl _
      conv => whnf
      exact EndI.one (c := 0) (j := 0) (o := rowE (A ++ (W1 ++ (U2 ++ (D2 ++ B))))) (t := .tup []) rfl rfl rfl (fun _ => rfl) (.inl rfl) trivial (.eq rfl) ⟨W1 ++ (U2 ++ D2), by rw [hU, hD]; exact perm_halves pW1 pW2, srt_two sW1 sW2 pW1 pW2 hHV, rfl, by simp⟩
    ·have sW1 : srtT (U1 ++ D1) := srt_part sU1 sD1 (by
      rw [Bool.and_eq_false_iff, decide_eq_false_iff_not, decide_eq_false_iff_not] at h7
      rcases h7 with h7 | h7
      ·exact .inl (List.eq_nil_of_length_eq_zero (by omega))
      ·exact .inr (List.eq_nil_of_length_eq_zero (by omega)))
     have pW1 : (U1 ++ D1).Perm (U1 ++ D1) := List.Perm.refl _
     obtain ⟨W1, hW1⟩ : ∃ W1, W1 = U1 ++ D1 := ⟨_, rfl⟩
     rw [show A ++ (U1 ++ (D1 ++ (U2 ++ (D2 ++ B)))) = A ++ (W1 ++ (U2 ++ (D2 ++ B))) by rw [hW1, List.append_assoc]]
     rw [← hW1] at sW1
     replace pW1 : W1.Perm (U1 ++ D1) := by rw [hW1]
     have lW1 := hlB W1 pW1
     conv => whnf
     repeat (refine VC.mk (by first | exact fun h => h | exact fun h => ⟨h, h⟩) ?_; conv => whnf)
     refine ⟨fun h8 => ?_, fun h8 => ?_⟩
     ·rw [Bool.and_eq_true, decide_eq_true_eq, decide_eq_true_eq] at h8
      conv => whnf
      refine CallZ.heapE (ih (A ++ W1) U2 D2 B _ _ _ _ hn2 (by omega) (by omega) sU2 sD2 (hA1 W1 lW1).symm (by rw [hA1 W1 lW1, hb3]) (by rw [hA1 W1 lW1, hb4]) (hl2 W1 lW1) (hsB W1 pW1)) (by rw [List.append_assoc]) ?_
      rintro t hp ⟨W2, pW2, sW2, rfl, rfl⟩
      refine ⟨.tup [], h1 _, rfl, rfl, ?_⟩
      conv => whnf
      exact EndI.one (c := 0) (j := 0) (o := rowE ((A ++ W1) ++ (W2 ++ B))) (t := .tup []) rfl rfl rfl (fun _ => rfl) (.inl rfl) trivial (.eq rfl) ⟨W1 ++ W2, by rw [hU, hD]; exact perm_halves pW1 pW2, srt_two sW1 sW2 pW1 pW2 hHV, rfl, by simp⟩
     ·have sW2 : srtT (U2 ++ D2) := srt_part sU2 sD2 (by
       rw [Bool.and_eq_false_iff, decide_eq_false_iff_not, decide_eq_false_iff_not] at h8
       rcases h8 with h8 | h8
       ·exact .inl (List.eq_nil_of_length_eq_zero (by omega))
       ·exact .inr (List.eq_nil_of_length_eq_zero (by omega)))
      have pW2 : (U2 ++ D2).Perm (U2 ++ D2) := List.Perm.refl _
      conv => whnf
      exact EndI.one (c := 0) (j := 0) (o := rowE (A ++ (W1 ++ (U2 ++ (D2 ++ B))))) (t := .tup []) rfl rfl rfl (fun _ => rfl) (.inl rfl) trivial (.eq rfl) ⟨W1 ++ (U2 ++ D2), by rw [hU, hD]; exact perm_halves pW1 pW2, srt_two sW1 sW2 pW1 pW2 hHV, rfl, by simp⟩
   ·rw [show A ++ (U ++ (D ++ B)) = A ++ (U1 ++ (D1 ++ (U2 ++ (D2 ++ B)))) by
     rw [hUD]
     rw [Bool.and_eq_false_iff, decide_eq_false_iff_not, decide_eq_false_iff_not] at h6
     rcases h6 with h6 | h6
     ·rw [List.eq_nil_of_length_eq_zero (show U2.length = 0 by omega)]; simp
     ·rw [List.eq_nil_of_length_eq_zero (show D1.length = 0 by omega)]; simp]
    conv => whnf
    repeat (refine VC.mk (by first | exact fun h => h | exact fun h => ⟨h, h⟩) ?_; conv => whnf)
    refine ⟨fun h7 => ?_, fun h7 => ?_⟩
    ·rw [Bool.and_eq_true, decide_eq_true_eq, decide_eq_true_eq] at h7
     conv => whnf
     refine CallZ.heapE (ih A U1 D1 (U2 ++ (D2 ++ B)) _ _ _ _ hn1 (by omega) (by omega) sU1 sD1 ha (by omega) (by omega) (by simp only [List.length_append]; omega) hsA) rfl ?_
     rintro t hp ⟨W1, pW1, sW1, rfl, rfl⟩
     have lW1 := hlB W1 pW1
     refine ⟨.tup [], h1 _, rfl, rfl, ?_⟩
     conv => whnf
     repeat (refine VC.mk (by first | exact fun h => h | exact fun h => ⟨h, h⟩) ?_; conv => whnf)
     refine ⟨fun h8 => ?_, fun h8 => ?_⟩
     ·rw [Bool.and_eq_true, decide_eq_true_eq, decide_eq_true_eq] at h8
      conv => whnf
      refine CallZ.heapE (ih (A ++ W1) U2 D2 B _ _ _ _ hn2 (by omega) (by omega) sU2 sD2 (hA1 W1 lW1).symm (by rw [hA1 W1 lW1, hb3]) (by rw [hA1 W1 lW1, hb4]) (hl2 W1 lW1) (hsB W1 pW1)) (by rw [List.append_assoc]) ?_
      rintro t hp ⟨W2, pW2, sW2, rfl, rfl⟩
      refine ⟨.tup [], h1 _, rfl, rfl, ?_⟩
      conv => whnf
      exact EndI.one (c := 0) (j := 0) (o := rowE ((A ++ W1) ++ (W2 ++ B))) (t := .tup []) rfl rfl rfl (fun _ => rfl) (.inl rfl) trivial (.eq rfl) ⟨W1 ++ W2, by rw [hU, hD]; exact perm_halves pW1 pW2, srt_two sW1 sW2 pW1 pW2 hHV, rfl, by simp⟩
     ·have sW2 : srtT (U2 ++ D2) := srt_part sU2 sD2 (by
       rw [Bool.and_eq_false_iff, decide_eq_false_iff_not, decide_eq_false_iff_not] at h8
       rcases h8 with h8 | h8
       ·exact .inl (List.eq_nil_of_length_eq_zero (by omega))
       ·exact .inr (List.eq_nil_of_length_eq_zero (by omega)))
      have pW2 : (U2 ++ D2).Perm (U2 ++ D2) := List.Perm.refl _
      conv => whnf
      exact EndI.one (c := 0) (j := 0) (o := rowE (A ++ (W1 ++ (U2 ++ (D2 ++ B))))) (t := .tup []) rfl rfl rfl (fun _ => rfl) (.inl rfl) trivial (.eq rfl) ⟨W1 ++ (U2 ++ D2), by rw [hU, hD]; exact perm_halves pW1 pW2, srt_two sW1 sW2 pW1 pW2 hHV, rfl, by simp⟩
    ·have sW1 : srtT (U1 ++ D1) := srt_part sU1 sD1 (by
      rw [Bool.and_eq_false_iff, decide_eq_false_iff_not, decide_eq_false_iff_not] at h7
      rcases h7 with h7 | h7
      ·exact .inl (List.eq_nil_of_length_eq_zero (by omega))
      ·exact .inr (List.eq_nil_of_length_eq_zero (by omega)))
     have pW1 : (U1 ++ D1).Perm (U1 ++ D1) := List.Perm.refl _
     obtain ⟨W1, hW1⟩ : ∃ W1, W1 = U1 ++ D1 := ⟨_, rfl⟩
     rw [show A ++ (U1 ++ (D1 ++ (U2 ++ (D2 ++ B)))) = A ++ (W1 ++ (U2 ++ (D2 ++ B))) by rw [hW1, List.append_assoc]]
     rw [← hW1] at sW1
     replace pW1 : W1.Perm (U1 ++ D1) := by rw [hW1]
     have lW1 := hlB W1 pW1
     conv => whnf
     repeat (refine VC.mk (by first | exact fun h => h | exact fun h => ⟨h, h⟩) ?_; conv => whnf)
     refine ⟨fun h8 => ?_, fun h8 => ?_⟩
     ·rw [Bool.and_eq_true, decide_eq_true_eq, decide_eq_true_eq] at h8
      conv => whnf
      refine CallZ.heapE (ih (A ++ W1) U2 D2 B _ _ _ _ hn2 (by omega) (by omega) sU2 sD2 (hA1 W1 lW1).symm (by rw [hA1 W1 lW1, hb3]) (by rw [hA1 W1 lW1, hb4]) (hl2 W1 lW1) (hsB W1 pW1)) (by rw [List.append_assoc]) ?_
      rintro t hp ⟨W2, pW2, sW2, rfl, rfl⟩
      refine ⟨.tup [], h1 _, rfl, rfl, ?_⟩
      conv => whnf
      exact EndI.one (c := 0) (j := 0) (o := rowE ((A ++ W1) ++ (W2 ++ B))) (t := .tup []) rfl rfl rfl (fun _ => rfl) (.inl rfl) trivial (.eq rfl) ⟨W1 ++ W2, by rw [hU, hD]; exact perm_halves pW1 pW2, srt_two sW1 sW2 pW1 pW2 hHV, rfl, by simp⟩
     ·have sW2 : srtT (U2 ++ D2) := srt_part sU2 sD2 (by
       rw [Bool.and_eq_false_iff, decide_eq_false_iff_not, decide_eq_false_iff_not] at h8
       rcases h8 with h8 | h8
       ·exact .inl (List.eq_nil_of_length_eq_zero (by omega))
       ·exact .inr (List.eq_nil_of_length_eq_zero (by omega)))
      have pW2 : (U2 ++ D2).Perm (U2 ++ D2) := List.Perm.refl _
      conv => whnf
      exact EndI.one (c := 0) (j := 0) (o := rowE (A ++ (W1 ++ (U2 ++ (D2 ++ B))))) (t := .tup []) rfl rfl rfl (fun _ => rfl) (.inl rfl) trivial (.eq rfl) ⟨W1 ++ (U2 ++ D2), by rw [hU, hD]; exact perm_halves pW1 pW2, srt_two sW1 sW2 pW1 pW2 hHV, rfl, by simp⟩
def Runs (n : Nat) (l : List Elem) : Prop := ∀ k, srtT ((l.drop (k * n)).take n)
theorem runs_sorted {n : Nat} {W : List Elem} (h : srtT W) : Runs n W := fun _ => List.Pairwise.sublist ((List.take_sublist _ _).trans (List.drop_sublist _ _)) h
theorem runs_append {n c : Nat} {D W : List Elem} (hD : Runs n D) (hc : D.length = c * n) (hW : Runs n W) : Runs n (D ++ W) := by
 intro k
 rcases Nat.lt_or_ge k c with h | h
 ·have h1 : (k + 1) * n ≤ c * n := Nat.mul_le_mul_right n h
  rw [Nat.succ_mul] at h1
  rw [List.drop_append_of_le_length (by omega), List.take_append_of_le_length (by rw [List.length_drop]; omega)]
  exact hD k
 ·obtain ⟨j, rfl⟩ : ∃ j, k = c + j := ⟨k - c, by omega⟩
  rw [Nat.add_mul, ← hc, ← List.drop_drop, List.drop_left]
  exact hW j
theorem runs_drop {n : Nat} {R : List Elem} (h : Runs n R) : Runs n (R.drop n) := by
 intro k
 rw [List.drop_drop]
 have := h (k + 1)
 rw [Nat.succ_mul, Nat.add_comm] at this
 exact this
theorem runs_head {n : Nat} {R : List Elem} (h : Runs n R) : srtT (R.take n) := by
 have := h 0
 simpa using this
theorem runs_short {n : Nat} {R : List Elem} (h : Runs n R) (hl : R.length ≤ n) : srtT R := by
 have := runs_head h
 rwa [List.take_of_length_le hl] at this
structure RunI where
 D : List Elem
 R : List Elem
structure SizI where
 bs : Nat
 L : List Elem
set_option maxHeartbeats 1000000 in
theorem S.stable (l : List Elem) (n : Nat) (hl : l.length < 2^30) (hs : smallE l) :
  ACalls Tryz.prog F.slices_stableCmpFunc_api_Element (V.toL [.own 0, .int l.length, fnT]) (h1 l).toHp n (fun t hp => ∃ W, W.Perm l ∧ srtT W ∧ t = .tup [] ∧ hp = (h1 W).toHp) := by
 obtain ⟨W0, w1, w2⟩ := srt_exists l
 refine SpecI.of (nx := 1) Bd.slices_stableCmpFunc_api_Element (by simp) ⟨_, _, W0, w1, w2, rfl, rfl⟩ rfl rfl ?_
 conv => whnf
 refine LoopZ.objs 1 [0, 1, 2, 6] (fun s : RunI => [(8, .int (s.D.length + 20 : Nat)), (7, .int s.D.length)]) (fun s => [(0, rowE (s.D ++ s.R))]) (fun s => (s.D ++ s.R).Perm l ∧ (∃ c, s.D.length = c * 20) ∧ Runs 20 s.D) (fun s => s.R.length) ⟨[], l⟩ [0] rfl (by decide) (fun _ => rfl) ⟨List.Perm.refl _, ⟨0, rfl⟩, runs_sorted List.Pairwise.nil⟩ ?_ ?_ ?_
 ·exact ⟨⟨_, rfl, .eq rfl⟩, ⟨_, rfl, .eq rfl⟩, trivial⟩
 ·exact ⟨⟨rfl, (fun _ => rfl), rfl, rfl, rfl, _, rfl, rfl, rfl, SubA.of_eq rfl⟩, trivial⟩
 conv => whnf
 refine ⟨⟨⟨_, rfl, .eq rfl⟩, ⟨_, rfl, .eq rfl⟩, ⟨_, rfl, .eq rfl⟩, ⟨_, rfl, .eq rfl⟩, trivial⟩, rfl, ?_⟩
 rintro ⟨D, R⟩ ⟨i1, ⟨c, i2⟩, i3⟩
 simp only at i1 i2 i3
 dsimp only
 have hlen : D.length + R.length = l.length := by rw [← List.length_append]; exact i1.length_eq
 conv => whnf
 refine ⟨fun h3 => ?_, fun h3 => ?_⟩
 ·have h4 : D.length + 20 ≤ l.length := by have := of_decide_eq_true h3; omega
  have hT : R.take 20 ++ R.drop 20 = R := List.take_append_drop _ _
  have lT : (R.take 20).length = 20 := by rw [List.length_take]; omega
  have lT' : (R.drop 20).length = R.length - 20 := List.length_drop
  conv => whnf
  refine CallZ.heapE (S.insertion D (R.take 20) (R.drop 20) _ _ _ rfl (by rw [lT]; omega) (by omega) (by rw [hT]; exact hs.perm i1)) (by rw [hT]; rfl) ?_
  rintro t hp ⟨W, pW, sW, rfl, rfl⟩
  have lW : W.length = 20 := by rw [pW.length_eq]; exact lT
  refine ⟨.tup [], h1 _, rfl, rfl, ?_⟩
  conv => whnf
  refine .mk (by first | (simp only [okI]; omega) | omega) ?_
  conv => whnf
  refine ⟨⟨D ++ W, R.drop 20⟩, [0], ⟨?_, ⟨c + 1, ?_⟩, runs_append i3 i2 (runs_sorted sW)⟩, ?_, ⟨⟨_, rfl, .eq ?_⟩, ⟨_, rfl, .eq ?_⟩, trivial⟩, ⟨⟨_, rfl, .eq rfl⟩, ⟨_, rfl, .eq rfl⟩, ⟨_, rfl, .eq rfl⟩, ⟨_, rfl, .eq rfl⟩, trivial⟩, ⟨rfl, (fun _ => rfl), rfl, rfl, rfl, _, rfl, rfl, rfl, SubA.of_eq ?_⟩, trivial⟩
  ·show (D ++ W ++ R.drop 20).Perm l
   refine List.Perm.trans ?_ i1
   rw [List.append_assoc]
   refine List.Perm.append_left _ ?_
   refine (pW.append_right _).trans ?_
   rw [hT]
  ·show (D ++ W).length = _; rw [List.length_append]; omega
  ·show (R.drop 20).length < R.length; omega
  ·show T.int (((D ++ W).length + 20 : Nat) : Int) = T.int (((D.length + 20 : Nat) : Int) + 20)
   exact congrArg T.int (by rw [List.length_append, lW]; omega)
  ·show T.int ((D ++ W).length : Int) = T.int ((D.length + 20 : Nat) : Int)
   rw [List.length_append, lW]
  ·show (rowE (D ++ W ++ R.drop 20)).toOb.l = _; rw [List.append_assoc]
 have h4 : l.length < D.length + 20 := by have := of_decide_eq_false h3; omega
 conv => whnf
 refine CallZ.heapE (S.insertion D R [] _ _ _ rfl (by omega) (by simp only [List.length_nil]; omega) (by rw [List.append_nil]; exact hs.perm i1)) (by rw [List.append_nil]; rfl) ?_
 rintro t hp ⟨W, pW, sW, rfl, rfl⟩
 have hR := runs_append i3 i2 (runs_sorted (n := 20) sW)
 have hP : (D ++ W).Perm l := ((List.Perm.append_left _ pW)).trans i1
 refine ⟨.tup [], h1 (D ++ W), rfl, by rw [List.append_nil], ?_⟩
 generalize D ++ W = L0 at hR hP
 conv => whnf
 refine LoopZ.objs 1 [0, 1, 2] (fun s : SizI => [(6, .int s.bs)]) (fun s => [(0, rowE s.L)]) (fun s => s.L.Perm l ∧ Runs s.bs s.L ∧ 20 ≤ s.bs ∧ s.bs < 2^32) (fun s => l.length - s.bs) ⟨20, L0⟩ [0] rfl (by decide) (fun _ => rfl) ⟨hP, hR, Nat.le_refl 20, (show 20 < 2^32 by decide)⟩ ?_ ?_ ?_
 ·exact ⟨⟨_, rfl, .eq rfl⟩, trivial⟩
 ·exact ⟨⟨rfl, (fun _ => rfl), rfl, rfl, rfl, _, rfl, rfl, rfl, SubA.of_eq rfl⟩, trivial⟩
 conv => whnf
 refine ⟨⟨⟨_, rfl, .eq rfl⟩, ⟨_, rfl, .eq rfl⟩, ⟨_, rfl, .eq rfl⟩, trivial⟩, rfl, ?_⟩
 rintro ⟨bs, L⟩ ⟨j1, j2, j3, j4⟩
 simp only at j1 j2 j3 j4
 dsimp only
 have hLl := j1.length_eq
 conv => whnf
 refine ⟨fun h5 => ?_, fun h5 => ?_⟩
 ·have h6 : bs < l.length := by have := of_decide_eq_true h5; omega
  conv => whnf
  refine .mk (by first | (simp only [okI]; omega) | omega) ?_
  conv => whnf
  refine LoopZ.objs 1 [0, 1, 2, 6] (fun s : RunI => [(8, .int (s.D.length + 2 * bs : Nat)), (7, .int s.D.length)]) (fun s => [(0, rowE (s.D ++ s.R))]) (fun s => (s.D ++ s.R).Perm l ∧ (∃ c, s.D.length = c * (2 * bs)) ∧ Runs (2 * bs) s.D ∧ Runs bs s.R) (fun s => s.R.length) ⟨[], L⟩ [0] rfl (by decide) (fun _ => rfl) ⟨j1, ⟨0, by simp⟩, runs_sorted List.Pairwise.nil, j2⟩ ?_ ?_ ?_
  ·refine ⟨⟨_, rfl, .eq ?_⟩, ⟨_, rfl, .eq rfl⟩, trivial⟩
   show T.int ((0 + 2 * bs : Nat) : Int) = T.int (2 * (bs : Int))
   exact congrArg T.int (by omega)
  ·exact ⟨⟨rfl, (fun _ => rfl), rfl, rfl, rfl, _, rfl, rfl, rfl, SubA.of_eq rfl⟩, trivial⟩
  conv => whnf
  refine ⟨⟨⟨_, rfl, .eq rfl⟩, ⟨_, rfl, .eq rfl⟩, ⟨_, rfl, .eq rfl⟩, ⟨_, rfl, .eq rfl⟩, trivial⟩, rfl, ?_⟩
  rintro ⟨D, R⟩ ⟨k1, ⟨c, k2⟩, k3, k4⟩
  simp only at k1 k2 k3 k4
  dsimp only
  have hlen : D.length + R.length = l.length := by rw [← List.length_append]; exact k1.length_eq
  conv => whnf
  refine ⟨fun h7 => ?_, fun h7 => ?_⟩
  ·have h8 : D.length + 2 * bs ≤ l.length := by have := of_decide_eq_true h7; omega
   have hT : R.take bs ++ ((R.drop bs).take bs ++ (R.drop bs).drop bs) = R := by rw [List.take_append_drop, List.take_append_drop]
   have l1 : (R.take bs).length = bs := by rw [List.length_take]; omega
   have l2 : ((R.drop bs).take bs).length = bs := by rw [List.length_take, List.length_drop]; omega
   have l3 : ((R.drop bs).drop bs).length = R.length - 2 * bs := by rw [List.length_drop, List.length_drop]; omega
   conv => whnf
   refine .mk (by first | (simp only [okI]; omega) | omega) ?_
   conv => whnf
   refine CallZ.heapE (S.symMerge (2 * bs) D (R.take bs) ((R.drop bs).take bs) ((R.drop bs).drop bs) _ _ _ _ (by omega) (by omega) (by omega) (runs_head k4) (runs_head (runs_drop k4)) rfl (by rw [l1]) (by rw [l1, l2]; omega) (by omega) (by rw [hT]; exact hs.perm k1)) (by rw [hT]; rfl) ?_
   rintro t hp ⟨W, pW, sW, rfl, rfl⟩
   have lW : W.length = 2 * bs := by rw [pW.length_eq, List.length_append]; omega
   refine ⟨.tup [], h1 _, rfl, rfl, ?_⟩
   conv => whnf
   repeat (refine VC.mk (by first | (simp only [okI]; omega) | omega) ?_; conv => whnf)
   refine ⟨⟨D ++ W, (R.drop bs).drop bs⟩, [0], ⟨?_, ⟨c + 1, ?_⟩, runs_append k3 k2 (runs_sorted sW), runs_drop (runs_drop k4)⟩, ?_, ⟨⟨_, rfl, .eq ?_⟩, ⟨_, rfl, .eq ?_⟩, trivial⟩, ⟨⟨_, rfl, .eq rfl⟩, ⟨_, rfl, .eq rfl⟩, ⟨_, rfl, .eq rfl⟩, ⟨_, rfl, .eq rfl⟩, trivial⟩, ⟨rfl, (fun _ => rfl), rfl, rfl, rfl, _, rfl, rfl, rfl, SubA.of_eq ?_⟩, trivial⟩
   ·show (D ++ W ++ (R.drop bs).drop bs).Perm l
    refine List.Perm.trans ?_ k1
    rw [List.append_assoc]
    refine List.Perm.append_left _ ?_
    refine (pW.append_right _).trans ?_
    rw [List.append_assoc, hT]
   ·show (D ++ W).length = _; rw [List.length_append, Nat.succ_mul]; omega
   ·show ((R.drop bs).drop bs).length < R.length; omega
   ·show T.int (((D ++ W).length + 2 * bs : Nat) : Int) = T.int (((D.length + 2 * bs : Nat) : Int) + 2 * (bs : Int))
    exact congrArg T.int (by rw [List.length_append, lW]; omega)
   ·show T.int ((D ++ W).length : Int) = T.int ((D.length + 2 * bs : Nat) : Int)
    rw [List.length_append, lW]
   ·show (rowE (D ++ W ++ (R.drop bs).drop bs)).toOb.l = _; rw [List.append_assoc]
  have h8 : l.length < D.length + 2 * bs := by have := of_decide_eq_false h7; omega
  conv => whnf
  refine .mk (by first | (simp only [okI]; omega) | omega) ?_
  conv => whnf
  refine ⟨fun h9 => ?_, fun h9 => ?_⟩
  ·have h10 : D.length + bs < l.length := by have := of_decide_eq_true h9; omega
   have hT : R.take bs ++ (R.drop bs ++ []) = R := by rw [List.append_nil, List.take_append_drop]
   have l1 : (R.take bs).length = bs := by rw [List.length_take]; omega
   have l2 : (R.drop bs).length = R.length - bs := List.length_drop
   conv => whnf
   refine CallZ.heapE (S.symMerge (2 * bs) D (R.take bs) (R.drop bs) [] _ _ _ _ (by omega) (by omega) (by omega) (runs_head k4) (runs_short (runs_drop k4) (by omega)) rfl (by rw [l1]) (by omega) (by simp only [List.length_nil]; omega) (by rw [hT]; exact hs.perm k1)) (by rw [hT]; rfl) ?_
   rintro t hp ⟨W, pW, sW, rfl, rfl⟩
   refine ⟨.tup [], h1 _, rfl, rfl, ?_⟩
   conv => whnf
   refine .mk (by first | (simp only [okI]; omega) | omega) ?_
   conv => whnf
   refine ⟨⟨bs * 2, D ++ W⟩, [0], ⟨?_, ?_, by show 20 ≤ bs * 2; omega, by show bs * 2 < _; omega⟩, by show l.length - bs * 2 < l.length - bs; omega, ⟨⟨_, rfl, .eq ?_⟩, trivial⟩, ⟨⟨_, rfl, .eq rfl⟩, ⟨_, rfl, .eq rfl⟩, ⟨_, rfl, .eq rfl⟩, trivial⟩, ⟨rfl, (fun _ => rfl), rfl, rfl, rfl, _, rfl, rfl, rfl, SubA.of_eq ?_⟩, trivial⟩
   ·show (D ++ W).Perm l
    refine List.Perm.trans ?_ k1
    refine List.Perm.append_left _ (pW.trans ?_)
    rw [List.take_append_drop]
   ·show Runs (bs * 2) (D ++ W)
    rw [Nat.mul_comm]; exact runs_append k3 k2 (runs_sorted sW)
   ·show T.int ((bs * 2 : Nat) : Int) = T.int ((bs : Int) * 2)
    congr 2
   ·show (rowE (D ++ W)).toOb.l = _; rw [List.append_nil]
  ·have h10 : l.length ≤ D.length + bs := by have := of_decide_eq_false h9; omega
   conv => whnf
   refine .mk (by first | (simp only [okI]; omega) | omega) ?_
   conv => whnf
   refine ⟨⟨bs * 2, D ++ R⟩, [0], ⟨k1, ?_, by show 20 ≤ bs * 2; omega, by show bs * 2 < _; omega⟩, by show l.length - bs * 2 < l.length - bs; omega, ⟨⟨_, rfl, .eq ?_⟩, trivial⟩, ⟨⟨_, rfl, .eq rfl⟩, ⟨_, rfl, .eq rfl⟩, ⟨_, rfl, .eq rfl⟩, trivial⟩, ⟨rfl, (fun _ => rfl), rfl, rfl, rfl, _, rfl, rfl, rfl, SubA.of_eq rfl⟩, trivial⟩
   ·show Runs (bs * 2) (D ++ R)
    rw [Nat.mul_comm]; exact runs_append k3 k2 (runs_sorted (runs_short k4 (by omega)))
   ·show T.int ((bs * 2 : Nat) : Int) = T.int ((bs : Int) * 2)
    congr 2
 ·have h6 : l.length ≤ bs := by have := of_decide_eq_false h5; omega
  conv => whnf
  exact EndI.one (c := 0) (j := 0) (o := rowE L) (t := .tup []) rfl rfl rfl (fun _ => rfl) (.inl rfl) trivial (.eq rfl) ⟨L, j1, runs_short j2 (by omega), rfl, rfl⟩
theorem S.SortStable (l : List Elem) (n : Nat) (hl : l.length < 2^30) (hs : smallE l) :
  ACalls Tryz.prog F.slices_SortStableFunc_Lapi_Element_api_Element (V.toL [.own 0, fnT]) (h1 l).toHp n (fun t hp => ∃ W, W.Perm l ∧ srtT W ∧ t = .tup [] ∧ hp = (h1 W).toHp) := by
 obtain ⟨W0, w1, w2⟩ := srt_exists l
 refine SpecI.of (nx := 1) Bd.slices_SortStableFunc_Lapi_Element_api_Element (by simp) ⟨_, _, W0, w1, w2, rfl, rfl⟩ rfl rfl ?_
 conv => whnf
 refine CallZ.heap (S.stable l _ hl hs) ?_
 rintro t hp ⟨W, pW, sW, rfl, rfl⟩
 refine ⟨.tup [], h1 W, rfl, rfl, ?_⟩
 conv => whnf
 exact EndI.one (c := 0) (j := 0) (o := rowE W) (t := .tup []) rfl rfl rfl (fun _ => rfl) (.inl rfl) trivial (.eq rfl) ⟨W, pW, sW, rfl, rfl⟩
structure goodE (e : Elem) : Prop where
 len : e.counts.length ≤ 6
 nums : okC e.counts
theorem leqL_sum : ∀ {a b : List Int}, leqL a b = true → a.sum ≤ b.sum ∧ (a ≠ b → a.sum < b.sum) := by
 intro a
 induction a with
 | nil => intro b h; cases b <;> simp [leqL] at *
 | cons x a ih =>
  intro b h
  cases b with
  | nil => simp [leqL] at h
  | cons y b =>
   simp only [leqL, Bool.and_eq_true, decide_eq_true_eq] at h
   obtain ⟨h1, h2⟩ := ih h.2
   simp only [List.sum_cons]
   refine ⟨by omega, fun hne => ?_⟩
   by_cases e : a = b
   ·have : x ≠ y := fun q => hne (by rw [q, e])
    omega
   ·have := h2 e; omega
theorem tot_good {e : Elem} (h : goodE e) : totE e = e.counts.sum := by
 have h1 := h.len
 rw [totE, if_neg (by omega), if_pos]
 rw [List.all_eq_true]
 exact fun x hx => okN_iff.2 (h.nums x hx)
theorem tot_lt {a b : Elem} (ha : goodE a) (hb : goodE b) (h : leqE a b = true) (hne : a ≠ b) : totE a < totE b := by
 rw [tot_good ha, tot_good hb]
 simp only [leqE, Bool.and_eq_true, beq_iff_eq] at h
 refine (leqL_sum h.2).2 fun e => hne ?_
 obtain ⟨v, c⟩ := a; obtain ⟨w, d⟩ := b
 simp only at h e
 rw [h.1, e]
theorem keep_min {W : List Elem} (hs : srtT W) (hg : ∀ e ∈ W, goodE e) : ∀ i, i ≤ W.length → ∀ x, x ∈ (W.take i).foldl keepE [] ↔ x ∈ W.take i ∧ W.any (abvE x) = false := by
 intro i
 induction i with
 | zero => intro _ x; simp
 | succ i ih =>
  intro hi x
  have ih := ih (by omega)
  have hil : i < W.length := by omega
  rw [foldl_take keepE [] default hil]
  have hlast : W.take (i + 1) = W.take i ++ [W.getD i default] := by rw [List.take_add_one]; simp [hil]
  generalize hy : W.getD i default = y at hlast ⊢
  have hyW : y ∈ W := by rw [← hy]; simp [hil]
  generalize hK : (W.take i).foldl keepE [] = K at ih ⊢
  rw [hlast]
  unfold keepE
  cases hm : W.any (abvE y) with
  | true =>
   rw [List.any_eq_true] at hm
   obtain ⟨u, hu, hab⟩ := hm
   obtain ⟨z, hz, h1, h2⟩ := min_of W hu
   have hu2 := abvE_iff.1 hab
   have hzy : leqE z y = true := leqE_trans h1 hu2.1
   have hne : z ≠ y := by
    rintro rfl
    have g1 := leqE_cmp h1
    have g2 := abvE_lt hab
    rw [cmpE_anti] at g1; omega
   have hlt := tot_lt (hg z hz) (hg y hyW) hzy hne
   have hzt : z ∈ W.take i := by
    rw [← List.take_append_drop i W, List.mem_append] at hz
    rcases hz with hz | hz
    ·exact hz
    ·exfalso
     obtain ⟨j, a1, a2, rfl⟩ := drop_get hz
     have := srt_get hs a1 a2
     rw [hy] at this; omega
   have hzK : z ∈ K := (ih z).2 ⟨hzt, h2⟩
   rw [if_pos (List.any_eq_true.2 ⟨z, hzK, hzy⟩), ih]
   simp only [List.mem_append, List.mem_singleton]
   constructor
   ·rintro ⟨a, b⟩; exact ⟨.inl a, b⟩
   ·rintro ⟨a | a, b⟩
    ·exact ⟨a, b⟩
    ·subst a
     rw [List.any_eq_false] at b
     exact absurd hab (b u hu)
  | false =>
   split
   ·rename_i hc
    rw [List.any_eq_true] at hc
    obtain ⟨b, hb, hby⟩ := hc
    have hbW := List.mem_of_mem_take ((ih b).1 hb).1
    have e : b = y := by
     refine Classical.byContradiction fun hne => ?_
     rw [List.any_eq_false] at hm
     exact hm b hbW (abvE_iff.2 ⟨hby, hne⟩)
    subst e
    rw [ih]
    simp only [List.mem_append, List.mem_singleton]
    constructor
    ·rintro ⟨a, b⟩; exact ⟨.inl a, b⟩
    ·rintro ⟨a | a, b⟩
     ·exact ⟨a, b⟩
     ·subst a; exact (ih x).1 hb
   ·simp only [List.mem_append, List.mem_singleton, ih]
    constructor
    ·rintro (⟨a, b⟩ | a)
     ·exact ⟨.inl a, b⟩
     ·subst a; exact ⟨.inr rfl, hm⟩
    ·rintro ⟨a | a, b⟩
     ·exact .inl ⟨a, b⟩
     ·exact .inr a
theorem min_law {l W : List Elem} (hg : ∀ e ∈ l, goodE e) (p : W.Perm l) (hs : srtT W) : tidyE (W.foldl keepE []) = covMin l := by
 refine ss_unique (tidyE_ss _) (covMin_props l).1 fun x => ?_
 have := keep_min hs (fun e he => hg e (p.mem_iff.1 he)) _ (Nat.le_refl _) x
 rw [List.take_length] at this
 rw [tidyE_mem, this, (covMin_props l).2, p.mem_iff, any_congr (fun y => p.mem_iff)]
theorem S.minimalOf (l : List Elem) (n : Nat) (hn : 0 < n) (hl : l.length < 2^29) (hg : ∀ e ∈ l, goodE e) :
  ACalls Tryz.prog F.cover_minimalOf (V.toL [.own 0]) (h1 l).toHp n (fun t hp => (t = .own n ∧ hp = Hz.toHp [(n, some (rowE (covMin l)))]) ∨ (∃ m, t = .ovw n 0 (covMin l).length ∧ hp = Hz.toHp [(n, some (.row Y.api_Element 3 (.elems (covMin l)) (List.replicate m zeroV)))])) := by
 have hs : smallF l := fun e he => by have := (hg e he).len; omega
 refine SpecI.of (nx := 1) Bd.cover_minimalOf (by simp) ⟨_, _, .inl ⟨rfl, rfl⟩⟩ rfl rfl ?_
 conv => whnf
 refine CallZ.heap (S.SortStable l _ (by omega) hs.e) ?_
 rintro t hp ⟨W, pW, sW, rfl, rfl⟩
 refine ⟨.tup [], h1 W, rfl, rfl, ?_⟩
 have hWl := pW.length_eq
 have hWs : smallE W := hs.e.perm pW
 have hlaw := min_law hg pW sW
 conv => whnf
 refine LoopZ.nil 3 Y.api_Element 3 (by rfl) rfl rfl rfl ?_
 refine LoopZ.objs 3 [9] (fun i : Nat => [(10, .int i), (3, .own 2), (8, .own 0)]) (fun i => [(0, rowE W), (2, rowE ((W.take i).foldl keepE []))]) (fun i => i ≤ W.length) (fun i => W.length - i) 0 [0, 8] rfl (by decide) (fun _ => rfl) (Nat.zero_le _) ?_ ?_ ?_
 ·exact ⟨⟨_, rfl, .eq rfl⟩, ⟨_, rfl, .eq rfl⟩, ⟨_, rfl, .eq rfl⟩, trivial⟩
 ·exact ⟨⟨rfl, (fun _ => rfl), rfl, rfl, rfl, _, rfl, rfl, rfl, SubA.of_eq rfl⟩, ⟨rfl, nofun, rfl, rfl, rfl, _, rfl, rfl, rfl, SubA.of_eq rfl⟩, trivial⟩
 conv => whnf
 refine ⟨⟨⟨_, rfl, .eq rfl⟩, trivial⟩, rfl, ?_⟩
 rintro i hi
 have hkl : ((W.take i).foldl keepE []).length ≤ i := by
  have := keep_len (W.take i) []
  simp at this; omega
 conv => whnf
 refine ⟨fun h3 => ?_, fun h3 => ?_⟩
 ·have hi' : i < W.length := by simpa using h3
  have hstep := foldl_take keepE [] (l := W) default hi'
  conv => whnf
  repeat (refine VC.mk (by simp only [okI, Rw.rng] at *; omega) ?_; conv => whnf)
  refine CallZ.lend (S.cover_Contains _ (W.getD i default) false (by omega) (small_keep hWs i) (hWs.get i)) ⟨lendE trivial rfl, sub_refl _, trivial⟩ rfl rfl ?_
  conv => whnf
  refine ⟨fun h4 => ?_, fun h4 => ?_⟩
  ·conv => whnf
   repeat (refine VC.mk (by first | (show (((W.take i).foldl keepE []).length + (0 + 1)) * 32 ≤ 140737488355328 ∧ ((W.take i).foldl keepE []).length + (0 + 1) ≤ 1152921504606846976; omega) | (simp only [okI, Rw.rng] at *; omega)) ?_; conv => whnf)
   refine ⟨i + 1, [0, 15], by omega, by omega, ⟨⟨_, rfl, .eq rfl⟩, ⟨_, rfl, .eq rfl⟩, ⟨_, rfl, .eq rfl⟩, trivial⟩, ⟨⟨_, rfl, .eq rfl⟩, trivial⟩, ⟨rfl, (fun _ => rfl), rfl, rfl, rfl, _, rfl, rfl, rfl, SubA.of_eq rfl⟩, ⟨rfl, nofun, rfl, rfl, rfl, _, rfl, rfl, rfl, SubA.of_eq ?_⟩, trivial⟩
   rw [Bool.not_eq_true'] at h4
   rw [hstep, keepE, if_neg (by rw [h4]; decide)]
   show List.map eElem _ ++ [] = List.map eElem _ ++ [eElem _]
   simp
  ·conv => whnf
   refine .mk (by simp only [okI, Rw.rng] at *; omega) ?_
   conv => whnf
   refine ⟨i + 1, [0, 2], by omega, by omega, ⟨⟨_, rfl, .eq rfl⟩, ⟨_, rfl, .eq rfl⟩, ⟨_, rfl, .eq rfl⟩, trivial⟩, ⟨⟨_, rfl, .eq rfl⟩, trivial⟩, ⟨rfl, (fun _ => rfl), rfl, rfl, rfl, _, rfl, rfl, rfl, SubA.of_eq rfl⟩, ⟨rfl, nofun, rfl, rfl, rfl, _, rfl, rfl, rfl, SubA.of_eq ?_⟩, trivial⟩
   rw [Bool.not_eq_false'] at h4
   rw [hstep, keepE, if_pos h4]
 ·have hi' : W.length ≤ i := by simpa using h3
  rw [List.take_of_length_le hi'] at hkl ⊢
  conv => whnf
  have hks : smallE (W.foldl keepE []) := by
   have := small_keep hWs W.length
   rwa [List.take_length] at this
  refine CallZ.tidy rfl rfl (by omega) hks ?_ (fun m => ?_)
  ·rw [hlaw]
   conv => whnf
   exact EndI.one (c := n) (j := 2) (o := rowE (covMin l)) (t := .own n) rfl rfl rfl (fun h => by rw [get_h1 hn] at h; cases h) (.inr rfl) rfl (.eq rfl) (.inl ⟨rfl, rfl⟩)
  ·rw [hlaw]
   conv => whnf
   exact EndI.one (c := n) (j := 2) (o := .row Y.api_Element 3 (.elems (covMin l)) (List.replicate m zeroV)) (t := .ovw n 0 (covMin l).length) rfl (rep_good _ _ _) (rep_fre _ _) (fun h => by rw [get_h1 hn] at h; cases h) (.inr rfl) rfl (.eq rfl) (.inr ⟨m, rfl, rfl⟩)
end Go.Proofs.YtgokbcjkbdabnaaGreatDoor
