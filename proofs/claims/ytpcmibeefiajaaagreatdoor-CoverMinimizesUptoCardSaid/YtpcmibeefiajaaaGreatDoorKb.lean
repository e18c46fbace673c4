/-
  A part of the proof. No condition.
-/
import Derived.Test.YtpcmibeefiajaaaGreatDoorKa
import Derived.Test.YtpcmibeefiajaaaGreatDoorSc
import Derived.Test.YtpcmibeefiajaaaGreatDoorLg
namespace Go.Proofs.YtpcmibeefiajaaaGreatDoor
open Go.Ab Go.Proofs
set_option maxRecDepth 100000

/-- Those of the first n elements that differ from the one ahead. -/
def ddI (l : List Elem) : Nat → List Elem
  | 0 => []
  | n + 1 => if n = 0 ∨ l.getD n default ≠ l.getD (n - 1) default then ddI l n ++ [l.getD n default] else ddI l n
theorem ddI_len (l : List Elem) : ∀ n, (ddI l n).length ≤ n := by
  intro n
  induction n with
  | zero => exact Nat.le_refl _
  | succ n ih =>
    simp only [ddI]; split
    · simp; omega
    · omega
theorem ddI_mem {l : List Elem} {x : Elem} : ∀ {n}, x ∈ ddI l n → n ≤ l.length → x ∈ l := by
  intro n
  induction n with
  | zero => intro h; cases h
  | succ n ih =>
    intro h hn
    simp only [ddI] at h
    split at h
    · rcases List.mem_append.1 h with h | h
      · exact ih h (by omega)
      · rw [List.mem_singleton] at h; subst h
        simp [show n < l.length by omega]
    · exact ih h (by omega)
theorem ddI_pos (l : List Elem) : ∀ n, 0 < n → 0 < (ddI l n).length := by
  intro n
  induction n with
  | zero => intro h; omega
  | succ n ih =>
    intro _
    simp only [ddI]
    by_cases h0 : n = 0
    · simp [h0]
    · split
      · simp
      · exact ih (by omega)
abbrev zeroV : V := .agg [.int 0, .row 0 true .nil]
/-- What the row holds within the second loop. -/
def mid (l : List Elem) (j : Nat) : List Elem := ddI l j ++ l.drop (ddI l j).length
theorem mid_len {l : List Elem} {j : Nat} (h : j ≤ l.length) : (mid l j).length = l.length := by
  have := ddI_len l j
  simp [mid]; omega
theorem mid_get {l : List Elem} {j i : Nat} (h : (ddI l j).length ≤ i) : (mid l j).getD i default = l.getD i default := by
  unfold mid
  rw [List.getD_eq_getElem?_getD, List.getElem?_append_right h, List.getElem?_drop, List.getD_eq_getElem?_getD]
  congr 2; omega
theorem mid_set {l : List Elem} {j : Nat} (hj : j < l.length) (h : j = 0 ∨ l.getD j default ≠ l.getD (j - 1) default) : (mid l j).set (ddI l j).length (l.getD j default) = mid l (j + 1) := by
  have hl := ddI_len l j
  have e : ddI l (j + 1) = ddI l j ++ [l.getD j default] := by simp only [ddI]; rw [if_pos h]
  unfold mid
  rw [e, List.set_append_right _ _ (Nat.le_refl _), Nat.sub_self, drop_getD default (show (ddI l j).length < l.length by omega)]
  simp
theorem mid_skip {l : List Elem} {j : Nat} (h0 : j ≠ 0) (h : l.getD j default = l.getD (j - 1) default) : ddI l (j + 1) = ddI l j := by
  simp only [ddI]; rw [if_neg]; intro q; rcases q with q | q
  · exact h0 q
  · exact q h
theorem ddI_take {l : List Elem} {k : Nat} (hk : k ≤ l.length) (h : ∀ i, 0 < i → i < k → l.getD i default ≠ l.getD (i - 1) default) : ddI l k = l.take k := by
  induction k with
  | zero => rfl
  | succ k ih =>
    simp only [ddI]
    rw [if_pos, ih (by omega) fun i h1 h2 => h i h1 (by omega), List.take_add_one]
    · simp [show k < l.length by omega]
    · by_cases h0 : k = 0
      · exact .inl h0
      · exact .inr (h k (by omega) (by omega))

theorem rep_good (l : List Elem) (m nx : Nat) : (OV.row Y.api_Element 3 (.elems l) (List.replicate m zeroV)).good nx = true := by
  have h1 : kdL 3 (List.replicate m zeroV) = true := by
    induction m with
    | zero => rfl
    | succ m ih => simp only [List.replicate_succ, kdL, ih, Bool.and_true]; rfl
  have h2 : T.ltL nx (V.toL (List.replicate m zeroV)) = true := by
    clear h1
    induction m with
    | zero => rfl
    | succ m ih => simp only [List.replicate_succ, V.toL, T.ltL, ih, Bool.and_true]; rfl
  simp only [OV.good, h1, h2]; rfl
theorem rep_fre (l : List Elem) (m : Nat) : (OV.row Y.api_Element 3 (.elems l) (List.replicate m zeroV)).fre = true := by
  simp only [OV.fre]
  induction m with
  | zero => rfl
  | succ m ih => simp only [List.replicate_succ, V.freeL, ih, Bool.and_true]; rfl

def compE (l : List Elem) : List Elem := ddI l l.length

theorem S.CompactFunc (l : List Elem) (n : Nat) (hl : l.length < 2^30) (hs : smallE l) :
    ACalls Tryz.prog F.slices_CompactFunc_Lapi_Element_api_Element (V.toL [.own 0, .fn F.cover_tidy_c1 []]) (h1 l).toHp n
      (fun t hp => (compE l = l ∧ t = .own 0 ∧ hp = (h1 l).toHp) ∨ (∃ m, t = .ovw 0 0 (compE l).length ∧ hp = Hz.toHp [(0, some (.row Y.api_Element 3 (.elems (compE l)) (List.replicate m zeroV)))])) := by
  refine SpecI.of (nx := 1) Bd.slices_CompactFunc_Lapi_Element_api_Element (by simp) ⟨_, _, .inr ⟨0, rfl, rfl⟩⟩ rfl rfl ?_
  conv => whnf
  repeat (refine VC.mk (by first | exact rfl | exact fun h => h | exact fun h => ⟨h, h⟩ | exact trivial | (intro h; rw [h]; rfl) | (intro h; simp [h]; done) | (simp only [okI, Rw.rng] at *; first | omega | (simp_all; done) | (simp_all; omega))) ?_; conv => whnf)
  refine Fork.mk (fun h1 => ?_) (fun h1 => ?_)
  · conv => whnf
    repeat (refine VC.mk (by first | exact rfl | exact fun h => h | exact fun h => ⟨h, h⟩ | exact trivial | (intro h; rw [h]; rfl) | (intro h; simp [h]; done) | (simp only [okI, Rw.rng] at *; first | omega | (simp_all; done) | (simp_all; omega))) ?_; conv => whnf)
    have hc : compE l = l := by
      have h2 : l.length < 2 := by simp at h1; omega
      rw [compE, ddI_take (Nat.le_refl _) (fun i h3 h4 => by omega), List.take_length]
    exact EndI.one (c := 0) (j := 0) (o := rowE l) (t := .own 0) rfl rfl rfl (fun _ => rfl) (.inl rfl) rfl (.eq rfl) (.inl ⟨hc, rfl, rfl⟩)
  · have h2 : 2 ≤ l.length := by simp at h1; omega
    conv => whnf
    repeat (refine VC.mk (by first | exact rfl | exact fun h => h | exact fun h => ⟨h, h⟩ | exact trivial | (intro h; rw [h]; rfl) | (intro h; simp [h]; done) | (simp only [okI, Rw.rng] at *; first | omega | (simp_all; done) | (simp_all; omega))) ?_; conv => whnf)
    refine LoopZ.same [0, 1] (fun i : Nat => [(5, .int i)]) (fun i => 1 ≤ i ∧ i ≤ l.length ∧ ∀ k, 0 < k → k < i → l.getD k default ≠ l.getD (k - 1) default) (fun i => l.length - i) 1 rfl (by decide) rfl (fun _ => rfl) ⟨by omega, by omega, fun k h3 h4 => by omega⟩ ⟨⟨_, rfl, rfl⟩, trivial⟩ ?_
    conv => whnf
    refine ⟨rfl, ?_⟩
    rintro k ⟨hk0, hk, hne⟩
    have e1 : ((k : Int) - 1).toNat = k - 1 := by omega
    conv => whnf
    repeat (refine VC.mk (by first | exact rfl | exact fun h => h | exact fun h => ⟨h, h⟩ | exact trivial | (intro h; rw [h]; rfl) | (intro h; simp [h]; done) | (simp only [okI, Rw.rng] at *; first | omega | (simp_all; done) | (simp_all; omega))) ?_; conv => whnf)
    refine Fork.mk (fun h3 => ?_) (fun h3 => ?_)
    · have hk' : k < l.length := by simpa using h3
      conv => whnf
      repeat (refine VC.mk (by first | (simp only [okI, Rw.rng]; omega) | first | exact rfl | exact fun h => h | exact fun h => ⟨h, h⟩ | exact trivial | (intro h; rw [h]; rfl) | (intro h; simp [h]; done) | (simp only [okI, Rw.rng] at *; first | omega | (simp_all; done) | (simp_all; omega))) ?_; conv => whnf)
      refine CallZ.pure (S.cover_tidy_c1 _ _ (hs.get _) (hs.get _)) rfl ?_
      conv => whnf
      repeat (refine VC.mk (by first | exact rfl | exact fun h => h | exact fun h => ⟨h, h⟩ | exact trivial | (intro h; rw [h]; rfl) | (intro h; simp [h]; done) | (simp only [okI, Rw.rng] at *; first | omega | (simp_all; done) | (simp_all; omega))) ?_; conv => whnf)
      refine Fork.mk (fun h4 => ?_) (fun h4 => ?_)
      · have heq : l.getD k default = l.getD (k - 1) default := by
          rw [e1] at h4; simpa using h4
        have hdk : ddI l k = l.take k := ddI_take hk hne
        have hdk1 : ddI l (k + 1) = l.take k := by rw [mid_skip (by omega) heq, hdk]
        conv => whnf
        repeat (refine VC.mk (by first | (simp only [okI, Rw.rngE]; omega) | first | exact rfl | exact fun h => h | exact fun h => ⟨h, h⟩ | exact trivial | (intro h; rw [h]; rfl) | (intro h; simp [h]; done) | (simp only [okI, Rw.rng] at *; first | omega | (simp_all; done) | (simp_all; omega))) ?_; conv => whnf)
        refine LoopZ.objs 1 [0, 1, 6] (fun j : Nat => [(7, .int j), (5, .int (ddI l (k + j)).length)]) (fun j => [(0, rowE (mid l (k + j)))]) (fun j => 1 ≤ j ∧ k + j ≤ l.length ∧ (ddI l (k + j)).length + 1 ≤ k + j) (fun j => l.length - j) 1 [0] rfl (by decide) (fun _ => rfl) ⟨by omega, by omega, ?_⟩ ?_ ?_ ?_
        · rw [hdk1]; simp; omega
        · refine ⟨⟨_, rfl, .eq rfl⟩, ⟨_, rfl, .eq ?_⟩, trivial⟩
          rw [hdk1]
          show T.int (((l.take k).length : Nat) : Int) = T.int (k : Int)
          simp [Nat.min_eq_left hk]
        · refine ⟨⟨rfl, (fun _ => rfl), rfl, rfl, rfl, _, rfl, rfl, rfl, SubA.of_eq ?_⟩, trivial⟩
          have : mid l (k + 1) = l := by unfold mid; rw [hdk1]; simp [Nat.min_eq_left hk]
          rw [this]
        conv => whnf
        refine ⟨⟨⟨_, rfl, .eq rfl⟩, ⟨_, rfl, .eq rfl⟩, ⟨_, rfl, .eq rfl⟩, trivial⟩, rfl, ?_⟩
        rintro j ⟨hj0, hj, hdl⟩
        have hml := mid_len hj
        have e2 : ((j : Int) - 1).toNat = j - 1 := by omega
        have hsm : smallE (mid l (k + j)) := fun x hx => by
          unfold mid at hx
          rcases List.mem_append.1 hx with hx | hx
          · exact hs x (ddI_mem hx hj)
          · exact hs x (List.mem_of_mem_drop hx)
        conv => whnf
        repeat (refine VC.mk (by first | exact rfl | exact fun h => h | exact fun h => ⟨h, h⟩ | exact trivial | (intro h; rw [h]; rfl) | (intro h; simp [h]; done) | (simp only [okI, Rw.rng] at *; first | omega | (simp_all; done) | (simp_all; omega))) ?_; conv => whnf)
        refine Fork.mk (fun h5 => ?_) (fun h5 => ?_)
        · have hj' : k + j < l.length := by
            have h6 : j < l.length - k := by
              have : (j : Int) < (((Rw.elems l).len - k : Nat) : Int) := by simpa using h5
              have e3 : (Rw.elems l).len = l.length := rfl
              rw [e3] at this
              omega
            omega
          have g1 := mid_get (l := l) (j := k + j) (i := k + j) (by omega)
          have g2 := mid_get (l := l) (j := k + j) (i := k + (j - 1)) (by omega)
          conv => whnf
          repeat (refine VC.mk (by first | (first | (simp only [okI]; omega) | (show _ ∧ _ < (((l.length - k : Nat)) : Int); omega) | (simp only [Rw.rng, hml, Int.toNat_natCast, e2]; omega) | (show (0 : Int) ≤ _ ∧ _ < ((mid l (k + j)).length : Int); rw [hml]; simp only [Int.toNat_natCast, e2]; omega)) | first | exact rfl | exact fun h => h | exact fun h => ⟨h, h⟩ | exact trivial | (intro h; rw [h]; rfl) | (intro h; simp [h]; done) | (simp only [okI, Rw.rng] at *; first | omega | (simp_all; done) | (simp_all; omega))) ?_; conv => whnf)
          refine CallZ.pure (S.cover_tidy_c1 _ _ (hsm.get _) (hsm.get _)) rfl ?_
          simp only [Int.toNat_natCast, e2, g1, g2]
          conv => whnf
          repeat (refine VC.mk (by first | exact rfl | exact fun h => h | exact fun h => ⟨h, h⟩ | exact trivial | (intro h; rw [h]; rfl) | (intro h; simp [h]; done) | (simp only [okI, Rw.rng] at *; first | omega | (simp_all; done) | (simp_all; omega))) ?_; conv => whnf)
          have e4 : k + (j - 1) = k + j - 1 := by omega
          refine Fork.mk (fun h6 => ?_) (fun h6 => ?_)
          · have hne' : l.getD (k + j) default ≠ l.getD (k + j - 1) default := by
              rw [e4] at h6; simpa using h6
            have hst := mid_set hj' (.inr hne')
            have hd1 : ddI l (k + j + 1) = ddI l (k + j) ++ [l.getD (k + j) default] := by simp only [ddI]; rw [if_pos (.inr hne')]
            conv => whnf
            repeat (refine VC.mk (by first | (first | (simp only [okI]; omega) | (show _ ∧ _ < (((l.length - k : Nat)) : Int); omega) | (simp only [Rw.rng, hml, Int.toNat_natCast]; omega) | (show (0 : Int) ≤ _ ∧ _ < ((mid l (k + j)).length : Int); rw [hml]; simp only [Int.toNat_natCast]; omega)) | first | exact rfl | exact fun h => h | exact fun h => ⟨h, h⟩ | exact trivial | (intro h; rw [h]; rfl) | (intro h; simp [h]; done) | (simp only [okI, Rw.rng] at *; first | omega | (simp_all; done) | (simp_all; omega))) ?_; conv => whnf)
            refine ⟨j + 1, [0], ⟨by omega, by omega, ?_⟩, by omega, ⟨⟨_, rfl, .eq rfl⟩, ⟨_, rfl, .eq ?_⟩, trivial⟩, ⟨⟨_, rfl, .eq rfl⟩, ⟨_, rfl, .eq rfl⟩, ⟨_, rfl, .eq rfl⟩, trivial⟩, ⟨rfl, (fun _ => rfl), rfl, rfl, rfl, _, rfl, rfl, rfl, SubA.of_eq ?_⟩, trivial⟩
            · show (ddI l (k + j + 1)).length + 1 ≤ k + (j + 1)
              rw [hd1]; simp; omega
            · show T.int (((ddI l (k + j + 1)).length : Nat) : Int) = T.int (((ddI l (k + j)).length : Int) + 1)
              rw [hd1]; simp
            · show (rowE (mid l (k + j + 1))).toOb.l = (OV.row Y.api_Element 3 (.elems ((mid l (k + j)).set (((ddI l (k + j)).length : Int)).toNat ((mid l (k + j)).getD ((k : Int).toNat + (j : Int).toNat) default))) []).toOb.l
              simp only [Int.toNat_natCast, g1, hst]
          · have heq' : l.getD (k + j) default = l.getD (k + j - 1) default := by
              rw [e4] at h6; simpa using h6
            have hd1 : ddI l (k + j + 1) = ddI l (k + j) := mid_skip (by omega) heq'
            conv => whnf
            repeat (refine VC.mk (by first | exact rfl | exact fun h => h | exact fun h => ⟨h, h⟩ | exact trivial | (intro h; rw [h]; rfl) | (intro h; simp [h]; done) | (simp only [okI, Rw.rng] at *; first | omega | (simp_all; done) | (simp_all; omega))) ?_; conv => whnf)
            refine ⟨j + 1, [0], ⟨by omega, by omega, ?_⟩, by omega, ⟨⟨_, rfl, .eq rfl⟩, ⟨_, rfl, .eq ?_⟩, trivial⟩, ⟨⟨_, rfl, .eq rfl⟩, ⟨_, rfl, .eq rfl⟩, ⟨_, rfl, .eq rfl⟩, trivial⟩, ⟨rfl, (fun _ => rfl), rfl, rfl, rfl, _, rfl, rfl, rfl, SubA.of_eq ?_⟩, trivial⟩
            · show (ddI l (k + j + 1)).length + 1 ≤ k + (j + 1)
              rw [hd1]; omega
            · show T.int (((ddI l (k + j + 1)).length : Nat) : Int) = T.int ((ddI l (k + j)).length : Int)
              rw [hd1]
            · show (rowE (mid l (k + j + 1))).toOb.l = (rowE (mid l (k + j))).toOb.l
              unfold mid; rw [hd1]
        · have hj' : k + j = l.length := by
            have h6 : ¬ (j : Int) < (((Rw.elems l).len - k : Nat) : Int) := by simpa using h5
            have e3 : (Rw.elems l).len = l.length := rfl
            rw [e3] at h6
            omega
          have hdl' : (ddI l (k + j)).length ≤ l.length := by have := ddI_len l (k + j); omega
          conv => whnf
          repeat (refine VC.mk (by first | (first | (simp only [Rw.rngE, hml]; omega) | (refine ⟨?_, rfl⟩; show ((ddI l (k + j)).length : Int).toNat ≤ (mid l (k + j)).length; rw [hml, Int.toNat_natCast]; omega) | (show (0 : Int) ≤ ((ddI l (k + j)).length : Int) ∧ ((ddI l (k + j)).length : Int) ≤ (((mid l (k + j)).take ((ddI l (k + j)).length : Int).toNat).length : Int); rw [List.length_take, hml, Int.toNat_natCast]; omega) | (show _ ≤ (mid l (k + j)).length ∧ (mid l (k + j)).length = (mid l (k + j)).length; rw [hml]; simp only [Int.toNat_natCast]; omega) | (show (0 : Int) ≤ _ ∧ _ ≤ (((mid l (k + j)).take _).length : Int); rw [List.length_take, hml]; simp only [Int.toNat_natCast]; omega)) | first | exact rfl | exact fun h => h | exact fun h => ⟨h, h⟩ | exact trivial | (intro h; rw [h]; rfl) | (intro h; simp [h]; done) | (simp only [okI, Rw.rng] at *; first | omega | (simp_all; done) | (simp_all; omega))) ?_; conv => whnf)
          have htk : (mid l (k + j)).take ((ddI l (k + j)).length : Int).toNat = compE l := by
            rw [Int.toNat_natCast]; unfold mid; rw [List.take_left, hj']; rfl
          have hcl : ((ddI l (k + j)).length : Int).toNat = (compE l).length := by rw [Int.toNat_natCast, hj']; rfl
          refine EndI.one (c := 0) (j := 0) (o := .row Y.api_Element 3 (.elems (compE l)) (List.replicate ((mid l (k + j)).length - ((ddI l (k + j)).length : Int).toNat) zeroV)) (t := .ovw 0 0 (compE l).length) ?_ (rep_good _ _ _) (rep_fre _ _) (fun _ => rfl) (.inl rfl) rfl (.eq ?_) (.inr ⟨_, rfl, rfl⟩)
          · rw [← htk]; rfl
          · rw [← hcl]; rfl
      · conv => whnf
        repeat (refine VC.mk (by first | exact rfl | exact fun h => h | exact fun h => ⟨h, h⟩ | exact trivial | (intro h; rw [h]; rfl) | (intro h; simp [h]; done) | (simp only [okI, Rw.rng] at *; first | omega | (simp_all; done) | (simp_all; omega))) ?_; conv => whnf)
        refine ⟨k + 1, ⟨by omega, by omega, fun i h5 h6 => ?_⟩, by omega, ⟨⟨_, rfl, rfl⟩, trivial⟩, ?_, rfl⟩
        · by_cases e : i = k
          · subst e; rw [e1] at h4; simpa using h4
          · exact hne i h5 (by omega)
        · repeat' (first | exact trivial | exact ⟨_, rfl, rfl⟩ | apply And.intro)
    · conv => whnf
      repeat (refine VC.mk (by first | exact rfl | exact fun h => h | exact fun h => ⟨h, h⟩ | exact trivial | (intro h; rw [h]; rfl) | (intro h; simp [h]; done) | (simp only [okI, Rw.rng] at *; first | omega | (simp_all; done) | (simp_all; omega))) ?_; conv => whnf)
      have hk' : l.length ≤ k := by simpa using h3
      have hc : compE l = l := by
        rw [compE, ddI_take (Nat.le_refl _) (fun i h3 h4 => hne i h3 (by omega)), List.take_length]
      exact EndI.one (c := 0) (j := 0) (o := rowE l) (t := .own 0) rfl rfl rfl (fun _ => rfl) (.inl rfl) rfl (.eq rfl) (.inl ⟨hc, rfl, rfl⟩)
end Go.Proofs.YtpcmibeefiajaaaGreatDoor
namespace Go.Proofs.YtpcmibeefiajaaaGreatDoor
open Go.Ab Go.Proofs
set_option maxRecDepth 100000

/-! ### the order of elements -/
theorem cmpL_anti : ∀ a b : List Int, cmpL b a = - cmpL a b := by
  intro a
  induction a with
  | nil => intro b; cases b <;> rfl
  | cons x a ih =>
    intro b
    cases b with
    | nil => rfl
    | cons y b =>
      simp only [cmpL]
      by_cases h1 : x < y
      · have h2 : ¬ y < x := by omega
        simp [h1, h2]
      · by_cases h2 : y < x
        · simp [h1, h2]
        · simp [h1, h2, ih]
theorem cmpE_anti (a b : Elem) : cmpE b a = - cmpE a b := by
  simp only [cmpE]
  by_cases h1 : a.value < b.value
  · have h2 : ¬ b.value < a.value := by omega
    simp [h1, h2]
  · by_cases h2 : b.value < a.value
    · simp [h1, h2]
    · simp [h1, h2, cmpL_anti a.counts b.counts]
theorem cmpL_trans : ∀ {a b c : List Int}, cmpL a b < 0 → cmpL b c < 0 → cmpL a c < 0 := by
  intro a
  induction a with
  | nil =>
    intro b c h1 h2
    cases b with
    | nil => simp [cmpL] at h1
    | cons y b => cases c with
      | nil => simp [cmpL] at h2
      | cons z c => simp [cmpL]
  | cons x a ih =>
    intro b c h1 h2
    cases b with
    | nil => simp [cmpL] at h1
    | cons y b => cases c with
      | nil => simp [cmpL] at h2
      | cons z c =>
        simp only [cmpL] at h1 h2 ⊢
        by_cases a1 : x < y
        · by_cases a2 : y < z
          · rw [if_pos (by omega)]; omega
          · by_cases a3 : z < y
            · simp [a2, a3] at h2
            · rw [if_pos (by omega)]; omega
        · by_cases a4 : y < x
          · simp [a1, a4] at h1
          · simp only [a1, a4, if_false] at h1
            have e : x = y := by omega
            subst e
            by_cases a2 : x < z
            · simp [a2]
            · by_cases a3 : z < x
              · simp [a2, a3] at h2
              · simp only [a2, a3, if_false] at h2 ⊢
                exact ih h1 h2
theorem cmpE_trans {a b c : Elem} (h1 : cmpE a b < 0) (h2 : cmpE b c < 0) : cmpE a c < 0 := by
  simp only [cmpE] at h1 h2 ⊢
  by_cases a1 : a.value < b.value
  · by_cases a2 : b.value < c.value
    · rw [if_pos (by omega)]; omega
    · by_cases a3 : c.value < b.value
      · simp [a2, a3] at h2
      · rw [if_pos (by omega)]; omega
  · by_cases a4 : b.value < a.value
    · simp [a1, a4] at h1
    · simp only [a1, a4, if_false] at h1
      by_cases a2 : b.value < c.value
      · rw [if_pos (by omega)]; omega
      · by_cases a3 : c.value < b.value
        · simp [a2, a3] at h2
        · simp only [a2, a3, if_false] at h2
          rw [if_neg (by omega), if_neg (by omega)]
          exact cmpL_trans h1 h2
theorem cmpE_le_trans {a b c : Elem} (h1 : ¬ cmpE b a < 0) (h2 : ¬ cmpE c b < 0) : ¬ cmpE c a < 0 := by
  rw [cmpE_anti a b] at h1
  rw [cmpE_anti b c] at h2
  rw [cmpE_anti a c]
  by_cases e1 : cmpE a b = 0
  · rw [cmpE_eq] at e1; subst e1; exact h2
  · by_cases e2 : cmpE b c = 0
    · rw [cmpE_eq] at e2; subst e2; exact h1
    · have := cmpE_trans (a := a) (b := b) (c := c) (by omega) (by omega)
      omega

/-- Sorted: no element is less than one ahead of it. -/
def SrtE (l : List Elem) : Prop := l.Pairwise fun a b => ¬ cmpE b a < 0
def insO (e : Elem) : List Elem → List Elem
  | [] => [e]
  | x :: r => if cmpE x e < 0 then x :: insO e r else e :: x :: r
def sortE (l : List Elem) : List Elem := l.foldr insO []
theorem insO_perm (e : Elem) : ∀ l, (insO e l).Perm (e :: l) := by
  intro l
  induction l with
  | nil => exact .refl _
  | cons x r ih =>
    simp only [insO]; split
    · exact ((ih.cons x).trans (.swap e x r))
    · exact .refl _
theorem sortE_perm : ∀ l, (sortE l).Perm l := by
  intro l
  induction l with
  | nil => exact .refl _
  | cons x r ih => exact (insO_perm x _).trans (ih.cons x)
theorem insO_srt (e : Elem) : ∀ l, SrtE l → SrtE (insO e l) := by
  intro l
  induction l with
  | nil => intro _; simp [SrtE, insO]
  | cons x r ih =>
    intro h
    have h' := h
    simp only [SrtE, List.pairwise_cons] at h
    simp only [insO]
    split
    · rename_i hlt
      simp only [SrtE, List.pairwise_cons]
      refine ⟨fun y hy => ?_, ih h.2⟩
      rcases List.mem_cons.1 ((insO_perm e r).mem_iff.1 hy) with rfl | hy
      · rw [cmpE_anti]; omega
      · exact h.1 y hy
    · rename_i hge
      simp only [SrtE, List.pairwise_cons]
      refine ⟨fun y hy => ?_, h⟩
      rcases List.mem_cons.1 hy with rfl | hy
      · exact hge
      · exact cmpE_le_trans hge (h.1 y hy)
theorem sortE_srt : ∀ l, SrtE (sortE l) := by
  intro l
  induction l with
  | nil => simp [SrtE, sortE]
  | cons x r ih => exact insO_srt x _ ih
theorem srt_unique : ∀ {a b : List Elem}, a.Perm b → SrtE a → SrtE b → a = b := by
  intro a
  induction a with
  | nil => intro b hp _ _; exact hp.nil_eq
  | cons x a ih =>
    intro b hp ha hb
    cases b with
    | nil => exact absurd hp.symm (by simp)
    | cons y b =>
      have h1 := ha; have h2 := hb
      simp only [SrtE, List.pairwise_cons] at h1 h2
      have hxy : x = y := by
        by_cases e : x = y
        · exact e
        · have hx : x ∈ b := by
            rcases List.mem_cons.1 (hp.mem_iff.1 (by simp : x ∈ x :: a)) with h | h
            · exact absurd h e
            · exact h
          have hy : y ∈ a := by
            rcases List.mem_cons.1 (hp.mem_iff.2 (by simp : y ∈ y :: b)) with h | h
            · exact absurd h.symm e
            · exact h
          have g1 := h1.1 y hy
          have g2 := h2.1 x hx
          rw [cmpE_anti] at g1
          have : cmpE x y = 0 := by omega
          exact cmpE_eq.1 this
      subst hxy
      rw [ih (List.Perm.cons_inv hp) h1.2 h2.2]

/-! ### elements out of values -/
def dElem : T → Elem
  | .agg [.lit (.int _ v), .sl _ _ l] => ⟨v, l.map intOfT⟩
  | _ => default
theorem dElem_e (e : Elem) : dElem (eElem e) = e := by
  obtain ⟨v, c⟩ := e
  simp only [eElem, dElem]
  congr 1
  rw [List.map_map]
  conv => rhs; rw [← List.map_id c]
  exact List.map_congr_left fun x _ => rfl
theorem eElem_kd (e : Elem) : (eElem e).kd = 2 + 1 := rfl

/-- Function 30 is called with what names no object. -/
theorem S.cmpT {x y : Elem} (hx : x.counts.length < 2^40) (hy : y.counts.length < 2^40) : APure Tryz.prog 30 [eElem x, eElem y] (.int (cmpE x y)) := S.cover_Compare x y hx hy

theorem ACalls.rename {P : Program} {f : FuncId} {ts : List T} {h h'' : Hp} {n0 n : Nat} {t : T} (H : ACalls P f ts h n0 fun t' h' => t' = t ∧ h' = h'') (h0 : h'' n0 = none) (hts : T.idsL (· ≠ n0) ts) (hh : idsH (· ≠ n0) h)
    (ht : t.ids (fun i => (h i).isSome = true)) (hh'' : idsH (fun i => (h i).isSome = true) h'') : ACalls P f ts h n fun t' h' => t' = t ∧ h' = h'' := by
  obtain ⟨h1, h2, h3⟩ := H
  refine ⟨h1, h2, fun F M E vs hk he hr hid hm hn => ?_⟩
  have hand : ∀ {l : List T}, T.idsL M l → T.idsL (· ≠ n0) l → T.idsL (fun i => M i ∧ i ≠ n0) l := by
    intro l a b
    rw [idsL_iff] at a b ⊢
    intro t ht
    have ha := a t ht; have hb := b t ht
    revert ha hb
    apply T.rec (motive_1 := fun t => t.ids M → t.ids (· ≠ n0) → t.ids (fun i => M i ∧ i ≠ n0)) (motive_2 := fun l => T.idsL M l → T.idsL (· ≠ n0) l → T.idsL (fun i => M i ∧ i ≠ n0) l) (t := t)
    all_goals (intros; simp_all [T.ids, T.idsL])
  refine (h3 F (fun i => M i ∧ i ≠ n0) E vs hk he hr (hand hid hts) (fun i ob hi => ⟨⟨(hm i ob hi).1, (hh i ob hi).1⟩, hand (hm i ob hi).2 (hh i ob hi).2⟩) (fun q => q.2 rfl)).mono ?_
  rintro e w' ⟨v, t', E', r1, r2, ⟨r3, r4⟩, r5, r6, r7, r8, _, _⟩
  have hM : ∀ i, (h i).isSome = true → M i ∨ i = n := fun i hi => by
    obtain ⟨ob, hob⟩ := Option.isSome_iff_exists.1 hi
    exact .inl (hm i ob hob).1
  refine ⟨v, t', E', r1, r2, ⟨r3, r4⟩, r5, r6, r7, fun i hi hs => ?_, by rw [r3]; exact T.ids_weaken hM _ ht, by rw [r4]; exact fun i ob hi => ⟨hM i (hh'' i ob hi).1, T.idsL_weaken hM _ (hh'' i ob hi).2⟩⟩
  by_cases e : i = n0
  · subst e; rw [r4, h0] at hs; cases hs
  · exact r8 i ⟨hi, e⟩ hs

def Kn : Know := ⟨xtab, fun _ _ _ => none, fun _ _ _ _ => none, fun _ => true, 10000⟩
theorem Kn_ok : KOk Tryz.prog Kn := ⟨xtab_ok, (fun n f ts t o h => by cases h), (fun n f ts h t h' e => by cases e)⟩
theorem sort_nil : xf Kn 40 false 1 F.slices_SortFunc_Lapi_Element_api_Element [.own 0, .fn 30 []] [(0, ⟨25, 3, []⟩)] = some (.tup [], [(0, ⟨25, 3, []⟩)]) := by kernel_rfl

theorem h1_hp (l : List Elem) : (h1 l).toHp = upd no 0 (some ⟨25, 3, l.map eElem⟩) := by
  show Hz.toHp ((0, some (rowE l)) :: []) = _
  rw [toHp_put]
  simp [rowE, OV.toOb, Rw.toL, V.toL]; rfl
theorem isAggE : ∀ w, (isAgg 25).run Tryz.prog w = .ok true w := fun w => run_isAgg' (k := 3) (by kernel_rfl)
theorem sizeE : ∀ w, (Go.sizeOf 25).run Tryz.prog w = .ok 2 w := fun w => run_sizeOf' (k := 3) (by kernel_rfl)

theorem S.SortFunc (l : List Elem) (n : Nat) (hl : l.length < 2^30) (hs : smallE l) :
    ACalls Tryz.prog F.slices_SortFunc_Lapi_Element_api_Element (V.toL [.own 0, .fn F.cover_Compare []]) (h1 l).toHp n (fun t hp => t = .tup [] ∧ hp = (h1 (sortE l)).toHp) := by
  by_cases hne : l = []
  · subst hne
    obtain ⟨H, _⟩ := xf_ok Kn_ok 40 false 1 _ _ _ _ _ sort_nil
    have e : lk [(0, (⟨25, 3, []⟩ : Ob))] = (h1 []).toHp := by
      rw [h1_hp, lk_upd]; rfl
    rw [e] at H
    refine ACalls.rename H ?_ ?_ ?_ ?_ ?_
    · rfl
    · exact ⟨show (0 : Nat) ≠ 1 by decide, trivial, trivial⟩
    · intro i ob hi
      rw [h1_hp] at hi
      simp only [upd] at hi
      split at hi
      · rename_i e; subst e; cases hi; exact ⟨show (0 : Nat) ≠ 1 by decide, trivial⟩
      · cases hi
    · trivial
    · intro i ob hi
      show _ ∧ T.idsL _ ob.l
      refine ⟨by rw [show sortE [] = [] from rfl] at hi; rw [hi]; rfl, ?_⟩
      rw [h1_hp] at hi
      simp only [upd] at hi
      split at hi
      · cases hi; trivial
      · cases hi
  · have hx : ∀ t ∈ l.map eElem, ∃ e ∈ l, t = eElem e := fun t ht => by obtain ⟨e, he, rfl⟩ := List.mem_map.1 ht; exact ⟨e, he, rfl⟩
    have H := ACalls.sort (n := n) Tryz.laySort 2 (by decide) isAggE sizeE (by exact Bd.slices_SortFunc_Lapi_Element_api_Element.cl) (g := 30) (by decide) (by exact Bd.cover_Compare.cl) (l := l.map eElem) (by simpa using hne)
      (fun t ht => by obtain ⟨e, _, rfl⟩ := hx t ht; rfl) (elems_free l) (by simp; omega) (fun x y => cmpE (dElem x) (dElem y))
      (fun t ht => by rw [cmpE_eq.2 rfl]; decide)
      (fun x _ y _ z _ h1 h2 => cmpE_trans h1 h2)
      (fun x _ y _ z _ h1 h2 => cmpE_le_trans h2 h1)
      (fun x hx1 y hy1 => by
        obtain ⟨a, ha, rfl⟩ := hx x hx1
        obtain ⟨b, hb, rfl⟩ := hx y hy1
        simp only [dElem_e]; exact S.cmpT (hs a ha) (hs b hb))
      (by decide) ⟨(sortE l).map eElem, (sortE_perm l).map eElem, by
        rw [List.pairwise_map]; simp only [dElem_e]; exact sortE_srt l⟩ (h := (h1 l).toHp) (i := 0) (ty := 25) (by rw [h1_hp]; rfl)
    refine ACalls.mono H ?_
    rintro t hp ⟨rfl, l', hp', hpw, rfl⟩
    refine ⟨rfl, ?_⟩
    have hl' : l' = (l'.map dElem).map eElem := by
      rw [List.map_map]
      conv => lhs; rw [← List.map_id l']
      refine List.map_congr_left fun t ht => ?_
      obtain ⟨e, _, rfl⟩ := hx t (hp'.mem_iff.1 ht)
      simp [dElem_e]
    have hperm : (l'.map dElem).Perm l := by
      have := hp'.map dElem
      rw [List.map_map] at this
      have e : l.map (dElem ∘ eElem) = l := by
        conv => rhs; rw [← List.map_id l]
        exact List.map_congr_left fun e _ => dElem_e e
      rw [e] at this; exact this
    have hsrt : SrtE (l'.map dElem) := by
      unfold SrtE; rw [List.pairwise_map]; exact hpw
    have heq : l'.map dElem = sortE l := srt_unique (hperm.trans (sortE_perm l).symm) hsrt (sortE_srt l)
    rw [h1_hp, h1_hp]
    rw [hl', heq]
    funext j
    simp only [upd]; split <;> rfl
end Go.Proofs.YtpcmibeefiajaaaGreatDoor
namespace Go.Proofs.YtpcmibeefiajaaaGreatDoor
open Go.Ab Go.Proofs
set_option maxRecDepth 100000

def tidyE (l : List Elem) : List Elem := compE (sortE l)
theorem sortE_len (l : List Elem) : (sortE l).length = l.length := (sortE_perm l).length_eq
theorem sortE_small {l : List Elem} (h : smallE l) : smallE (sortE l) := fun e he => h e ((sortE_perm l).mem_iff.1 he)

theorem S.cover_tidy (l : List Elem) (n : Nat) (hl : l.length < 2^30) (hs : smallE l) :
    ACalls Tryz.prog F.cover_tidy (V.toL [.own 0]) (h1 l).toHp n
      (fun t hp => (t = .own 0 ∧ hp = (h1 (tidyE l)).toHp) ∨ (∃ m, t = .ovw 0 0 (tidyE l).length ∧ hp = Hz.toHp [(0, some (.row Y.api_Element 3 (.elems (tidyE l)) (List.replicate m zeroV)))])) := by
  refine SpecI.of (nx := 1) Bd.cover_tidy (by simp) ⟨_, _, .inl ⟨rfl, rfl⟩⟩ rfl rfl ?_
  conv => whnf
  repeat (refine VC.mk (by first | exact rfl | exact fun h => h | exact fun h => ⟨h, h⟩ | exact trivial | (intro h; rw [h]; rfl) | (intro h; simp [h]; done) | (simp only [okI, Rw.rng] at *; first | omega | (simp_all; done) | (simp_all; omega))) ?_; conv => whnf)
  refine CallZ.heap (S.SortFunc l _ hl hs) ?_
  rintro t hp ⟨rfl, rfl⟩
  refine ⟨.tup [], h1 (sortE l), rfl, rfl, ?_⟩
  conv => whnf
  repeat (refine VC.mk (by first | exact rfl | exact fun h => h | exact fun h => ⟨h, h⟩ | exact trivial | (intro h; rw [h]; rfl) | (intro h; simp [h]; done) | (simp only [okI, Rw.rng] at *; first | omega | (simp_all; done) | (simp_all; omega))) ?_; conv => whnf)
  refine CallZ.heap (S.CompactFunc (sortE l) _ (by rw [sortE_len]; exact hl) (sortE_small hs)) ?_
  rintro t hp (⟨hc, rfl, rfl⟩ | ⟨m, rfl, rfl⟩)
  · refine ⟨.own 0, h1 (sortE l), rfl, rfl, ?_⟩
    conv => whnf
    repeat (refine VC.mk (by first | exact rfl | exact fun h => h | exact fun h => ⟨h, h⟩ | exact trivial | (intro h; rw [h]; rfl) | (intro h; simp [h]; done) | (simp only [okI, Rw.rng] at *; first | omega | (simp_all; done) | (simp_all; omega))) ?_; conv => whnf)
    refine EndI.one (c := 0) (j := 0) (o := rowE (sortE l)) (t := .own 0) rfl rfl rfl (fun _ => rfl) (.inl rfl) rfl (.eq rfl) (.inl ⟨rfl, ?_⟩)
    rw [tidyE, hc]
  · refine ⟨.ovw 0 0 (compE (sortE l)).length, [(0, some (.row Y.api_Element 3 (.elems (compE (sortE l))) (List.replicate m zeroV)))], rfl, rfl, ?_⟩
    conv => whnf
    repeat (refine VC.mk (by first | exact rfl | exact fun h => h | exact fun h => ⟨h, h⟩ | exact trivial | (intro h; rw [h]; rfl) | (intro h; simp [h]; done) | (simp only [okI, Rw.rng] at *; first | omega | (simp_all; done) | (simp_all; omega))) ?_; conv => whnf)
    exact EndI.one (c := 0) (j := 0) (o := .row Y.api_Element 3 (.elems (compE (sortE l))) (List.replicate m zeroV)) (t := .ovw 0 0 (compE (sortE l)).length) rfl (rep_good _ _ _) (rep_fre _ _) (fun _ => rfl) (.inl rfl) rfl (.eq rfl) (.inr ⟨m, rfl, rfl⟩)

def keepM (l : List Elem) (x : Elem) : Bool := !(l.any (abvE x))
def covMin (l : List Elem) : List Elem := tidyE (l.filter (keepM l))
theorem filter_take {l : List Elem} {p : Elem → Bool} {i : Nat} (h : i < l.length) : (l.take (i + 1)).filter p = (l.take i).filter p ++ (if p (l.getD i default) = true then [l.getD i default] else []) := by
  rw [List.take_add_one, List.filter_append]
  congr 1
  simp only [List.getElem?_eq_getElem h, Option.toList_some, List.getD_eq_getElem?_getD, Option.getD_some, List.filter_cons, List.filter_nil]
theorem EndZ.ovwE {h : Hz} {j m : Nat} {l : List Elem} (q : h.get j = some (.row Y.api_Element 3 (.elems l) (List.replicate m zeroV))) : EndZ (.row 3 false (.elems l)) (.ovw j 0 l.length) h := ⟨by
  show T.sub (fun _ => True) h.toHp (.sl 3 false (l.map eElem)) (.ovw j 0 l.length)
  simp only [T.sub]
  refine ⟨trivial, trivial, elems_free l, by decide, Y.api_Element, l.map eElem ++ V.toL (List.replicate m zeroV), ?_, by simp, by simp⟩
  exact toHp_some q⟩

theorem S.cover_Minimize (l : List Elem) (f : Bool) (hl : l.length < 2^29) (hs : smallE l) : SpecZ Tryz.prog F.cover_Minimize [.row 3 f (.elems l)] (.row 3 false (.elems (covMin l))) := by
  refine SpecZ.of Bd.cover_Minimize (by simp) rfl rfl ?_
  conv => whnf
  repeat (refine VC.mk (by first | exact rfl | exact fun h => h | exact fun h => ⟨h, h⟩ | exact trivial | (intro h; rw [h]; rfl) | (intro h; simp [h]; done) | (simp only [okI, Rw.rng] at *; first | omega | (simp_all; done) | (simp_all; omega))) ?_; conv => whnf)
  refine LoopZ.nil 3 Y.api_Element 3 (by rfl) rfl rfl rfl ?_
  refine LoopZ.objs 1 [0, 8, 9] (fun i : Nat => [(10, .int i), (3, .own 0)]) (fun i => [(0, rowE ((l.take i).filter (keepM l)))]) (fun i => i ≤ l.length) (fun i => l.length - i) 0 [5] rfl (by decide) (fun _ => rfl) (Nat.zero_le _) ?_ ?_ ?_
  · exact ⟨⟨_, rfl, .eq rfl⟩, ⟨_, rfl, .eq rfl⟩, trivial⟩
  · exact ⟨⟨rfl, (fun h => by cases h), rfl, rfl, rfl, _, rfl, rfl, rfl, SubA.of_eq rfl⟩, trivial⟩
  conv => whnf
  refine ⟨⟨⟨_, rfl, .eq rfl⟩, ⟨_, rfl, .eq rfl⟩, ⟨_, rfl, .eq rfl⟩, trivial⟩, rfl, ?_⟩
  rintro i hi
  have hfl : ((l.take i).filter (keepM l)).length ≤ i := by
    have := List.length_filter_le (keepM l) (l.take i)
    simp at this; omega
  conv => whnf
  repeat (refine VC.mk (by first | exact rfl | exact fun h => h | exact fun h => ⟨h, h⟩ | exact trivial | (intro h; rw [h]; rfl) | (intro h; simp [h]; done) | (simp only [okI, Rw.rng] at *; first | omega | (simp_all; done) | (simp_all; omega))) ?_; conv => whnf)
  refine Fork.mk (fun h3 => ?_) (fun h3 => ?_)
  · have hi' : i < l.length := by simpa using h3
    have hstep := filter_take (p := keepM l) hi'
    conv => whnf
    repeat (refine VC.mk (by first | exact rfl | exact fun h => h | exact fun h => ⟨h, h⟩ | exact trivial | (intro h; rw [h]; rfl) | (intro h; simp [h]; done) | (simp only [okI, Rw.rng] at *; first | omega | (simp_all; done) | (simp_all; omega))) ?_; conv => whnf)
    refine CallZ.pure (S.ContainsAbove l (l.getD i default) false f (by omega) hs (hs.get i)) rfl ?_
    conv => whnf
    repeat (refine VC.mk (by first | exact rfl | exact fun h => h | exact fun h => ⟨h, h⟩ | exact trivial | (intro h; rw [h]; rfl) | (intro h; simp [h]; done) | (simp only [okI, Rw.rng] at *; first | omega | (simp_all; done) | (simp_all; omega))) ?_; conv => whnf)
    refine Fork.mk (fun h4 => ?_) (fun h4 => ?_)
    · conv => whnf
      repeat (refine VC.mk (by first | exact rfl | exact fun h => h | exact fun h => ⟨h, h⟩ | exact trivial | (intro h; rw [h]; rfl) | (intro h; simp [h]; done) | (simp only [okI, Rw.rng] at *; first | omega | (simp_all; done) | (simp_all; omega))) ?_; conv => whnf)
      refine CallZ.pure (S.cover_item_copied (l.getD i default) (l.any (abvE (l.getD i default))) (hs.get i)) rfl ?_
      conv => whnf
      repeat (refine VC.mk (by first | (show (((l.take i).filter (keepM l)).length + (0 + 1)) * 32 ≤ 140737488355328 ∧ ((l.take i).filter (keepM l)).length + (0 + 1) ≤ 1152921504606846976; omega) | first | exact rfl | exact fun h => h | exact fun h => ⟨h, h⟩ | exact trivial | (intro h; rw [h]; rfl) | (intro h; simp [h]; done) | (simp only [okI, Rw.rng] at *; first | omega | (simp_all; done) | (simp_all; omega))) ?_; conv => whnf)
      refine ⟨i + 1, [25], by omega, by omega, ⟨⟨_, rfl, .eq rfl⟩, ⟨_, rfl, .eq rfl⟩, trivial⟩, ⟨⟨_, rfl, .eq rfl⟩, ⟨_, rfl, .eq rfl⟩, ⟨_, rfl, .eq rfl⟩, trivial⟩, ⟨rfl, (fun h => by cases h), rfl, rfl, rfl, _, rfl, rfl, rfl, SubA.of_eq ?_⟩, trivial⟩
      rw [hstep, if_pos (show keepM l (l.getD i default) = true from h4)]
      show List.map eElem _ ++ [] = List.map eElem _ ++ [eElem _]
      simp
    · conv => whnf
      repeat (refine VC.mk (by first | exact rfl | exact fun h => h | exact fun h => ⟨h, h⟩ | exact trivial | (intro h; rw [h]; rfl) | (intro h; simp [h]; done) | (simp only [okI, Rw.rng] at *; first | omega | (simp_all; done) | (simp_all; omega))) ?_; conv => whnf)
      refine ⟨i + 1, [0], by omega, by omega, ⟨⟨_, rfl, .eq rfl⟩, ⟨_, rfl, .eq rfl⟩, trivial⟩, ⟨⟨_, rfl, .eq rfl⟩, ⟨_, rfl, .eq rfl⟩, ⟨_, rfl, .eq rfl⟩, trivial⟩, ⟨rfl, (fun h => by cases h), rfl, rfl, rfl, _, rfl, rfl, rfl, SubA.of_eq ?_⟩, trivial⟩
      rw [hstep, if_neg (by rw [show keepM l (l.getD i default) = false from h4]; decide), List.append_nil]
  · have hi' : l.length ≤ i := by simpa using h3
    have hA : l.take i = l := List.take_of_length_le hi'
    rw [hA] at hfl ⊢
    conv => whnf
    repeat (refine VC.mk (by first | exact rfl | exact fun h => h | exact fun h => ⟨h, h⟩ | exact trivial | (intro h; rw [h]; rfl) | (intro h; simp [h]; done) | (simp only [okI, Rw.rng] at *; first | omega | (simp_all; done) | (simp_all; omega))) ?_; conv => whnf)
    refine CallZ.heap (S.cover_tidy (l.filter (keepM l)) _ (by omega) (fun e he => hs e (List.mem_filter.1 he).1)) ?_
    rintro t hp (⟨rfl, rfl⟩ | ⟨m, rfl, rfl⟩)
    · refine ⟨.own 0, h1 _, rfl, rfl, ?_⟩
      conv => whnf
      repeat (refine VC.mk (by first | exact rfl | exact fun h => h | exact fun h => ⟨h, h⟩ | exact trivial | (intro h; rw [h]; rfl) | (intro h; simp [h]; done) | (simp only [okI, Rw.rng] at *; first | omega | (simp_all; done) | (simp_all; omega))) ?_; conv => whnf)
      exact EndZ.ownE rfl
    · refine ⟨.ovw 0 0 _, [(0, some _)], rfl, rfl, ?_⟩
      conv => whnf
      repeat (refine VC.mk (by first | exact rfl | exact fun h => h | exact fun h => ⟨h, h⟩ | exact trivial | (intro h; rw [h]; rfl) | (intro h; simp [h]; done) | (simp only [okI, Rw.rng] at *; first | omega | (simp_all; done) | (simp_all; omega))) ?_; conv => whnf)
      exact EndZ.ovwE rfl
end Go.Proofs.YtpcmibeefiajaaaGreatDoor
namespace Go.Proofs.YtpcmibeefiajaaaGreatDoor
open Go.Ab Go.Proofs

/-! ### below -/
theorem leqL_cmp : ∀ {a b : List Int}, leqL a b = true → cmpL a b ≤ 0 := by
  intro a
  induction a with
  | nil => intro b h; cases b <;> simp [leqL, cmpL] at *
  | cons x a ih =>
    intro b h
    cases b with
    | nil => simp [leqL] at h
    | cons y b =>
      simp only [leqL, Bool.and_eq_true, decide_eq_true_eq] at h
      simp only [cmpL]
      by_cases h1 : x < y
      · simp [h1]
      · have h2 : ¬ y < x := by omega
        simp only [h1, h2, if_false]; exact ih h.2
theorem leqE_cmp {a b : Elem} (h : leqE a b = true) : cmpE a b ≤ 0 := by
  simp only [leqE, Bool.and_eq_true, beq_iff_eq] at h
  simp only [cmpE]
  rw [if_neg (by omega), if_neg (by omega)]
  exact leqL_cmp h.2
theorem leqL_refl : ∀ a : List Int, leqL a a = true := by
  intro a
  induction a with
  | nil => rfl
  | cons x a ih => simp [leqL, ih]
theorem leqE_refl (a : Elem) : leqE a a = true := by simp [leqE, leqL_refl]
theorem leqL_trans : ∀ {a b c : List Int}, leqL a b = true → leqL b c = true → leqL a c = true := by
  intro a
  induction a with
  | nil => intro b c h1 h2; cases b <;> cases c <;> simp [leqL] at *
  | cons x a ih =>
    intro b c h1 h2
    cases b with
    | nil => simp [leqL] at h1
    | cons y b => cases c with
      | nil => simp [leqL] at h2
      | cons z c =>
        simp only [leqL, Bool.and_eq_true, decide_eq_true_eq] at *
        exact ⟨by omega, ih h1.2 h2.2⟩
theorem leqE_trans {a b c : Elem} (h1 : leqE a b = true) (h2 : leqE b c = true) : leqE a c = true := by
  simp only [leqE, Bool.and_eq_true, beq_iff_eq] at *
  exact ⟨by omega, leqL_trans h1.2 h2.2⟩
theorem abvE_iff {x y : Elem} : abvE x y = true ↔ leqE y x = true ∧ y ≠ x := by
  simp only [abvE, Bool.and_eq_true, bne_iff_ne, ne_eq, cmpE_eq]
theorem abvE_lt {x y : Elem} (h : abvE x y = true) : cmpE y x < 0 := by
  rw [abvE_iff] at h
  have h1 := leqE_cmp h.1
  have h2 : cmpE y x ≠ 0 := fun e => h.2 (cmpE_eq.1 e)
  omega

/-! ### strictly sorted lists -/
def SS (l : List Elem) : Prop := l.Pairwise fun a b => cmpE a b < 0
theorem ss_unique : ∀ {a b : List Elem}, SS a → SS b → (∀ x, x ∈ a ↔ x ∈ b) → a = b := by
  intro a
  induction a with
  | nil =>
    intro b _ _ h
    cases b with
    | nil => rfl
    | cons y b => exact absurd ((h y).2 (by simp)) (by simp)
  | cons x a ih =>
    intro b ha hb h
    cases b with
    | nil => exact absurd ((h x).1 (by simp)) (by simp)
    | cons y b =>
      simp only [SS, List.pairwise_cons] at ha hb
      have hself : ∀ z : Elem, ¬ cmpE z z < 0 := fun z => by rw [cmpE_eq.2 rfl]; decide
      have hxy : x = y := by
        rcases List.mem_cons.1 ((h x).1 (by simp)) with e | hx
        · exact e
        · rcases List.mem_cons.1 ((h y).2 (by simp)) with e | hy
          · exact e.symm
          · exact absurd (cmpE_trans (ha.1 y hy) (hb.1 x hx)) (hself x)
      subst hxy
      rw [ih ha.2 hb.2 fun z => ?_]
      constructor
      · intro hz
        rcases List.mem_cons.1 ((h z).1 (by simp [hz])) with e | h'
        · subst e; exact absurd (ha.1 z hz) (hself z)
        · exact h'
      · intro hz
        rcases List.mem_cons.1 ((h z).2 (by simp [hz])) with e | h'
        · subst e; exact absurd (hb.1 z hz) (hself z)
        · exact h'

/-! ### what is sorted and without doubles -/
theorem ddI_props {l : List Elem} (hs : SrtE l) : ∀ n, n ≤ l.length → SS (ddI l n) ∧ (∀ x, x ∈ ddI l n ↔ x ∈ l.take n) ∧ (∀ x ∈ ddI l n, n < l.length → ¬ cmpE (l.getD n default) x < 0) := by
  intro n
  induction n with
  | zero => intro _; exact ⟨by simp [SS, ddI], by simp [ddI], by simp [ddI]⟩
  | succ n ih =>
    intro hn
    obtain ⟨h1, h2, h3⟩ := ih (by omega)
    have hnl : n < l.length := by omega
    have hmono : ∀ i j, i ≤ j → j < l.length → ¬ cmpE (l.getD j default) (l.getD i default) < 0 := by
      intro i j hij hj
      by_cases e : i = j
      · subst e; rw [cmpE_eq.2 rfl]; decide
      · have := List.pairwise_iff_getElem.1 hs i j (by omega) hj (by omega)
        simpa [hj, show i < l.length by omega] using this
    have htake : ∀ x, x ∈ l.take n → ∃ i, i < n ∧ l.getD i default = x := by
      intro x hx
      rw [List.mem_take_iff_getElem] at hx
      obtain ⟨i, hi, e⟩ := hx
      exact ⟨i, by omega, by rw [← e]; simp [show i < l.length by omega]⟩
    have hlast : l.take (n + 1) = l.take n ++ [l.getD n default] := by
      rw [List.take_add_one]; simp [hnl]
    simp only [ddI]
    split
    · rename_i hc
      refine ⟨?_, ?_, ?_⟩
      · simp only [SS, List.pairwise_append]
        refine ⟨h1, by simp, fun x hx y hy => ?_⟩
        rw [List.mem_singleton] at hy; subst hy
        have hge := h3 x hx hnl
        rw [cmpE_anti] at hge
        have hne : cmpE x (l.getD n default) ≠ 0 := by
          intro e
          rw [cmpE_eq] at e
          rcases hc with hc | hc
          · subst hc; simp [ddI] at hx
          · obtain ⟨i, hi, hix⟩ := htake x ((h2 x).1 hx)
            have g1 := hmono i (n - 1) (by omega) (by omega)
            have g2 := hmono (n - 1) n (by omega) hnl
            rw [hix, e] at g1
            rw [cmpE_anti] at g1
            have : cmpE (l.getD n default) (l.getD (n - 1) default) = 0 := by omega
            exact hc (cmpE_eq.1 this)
        omega
      · intro x
        rw [hlast]
        simp only [List.mem_append, h2]
      · intro x hx hn1
        rcases List.mem_append.1 hx with hx | hx
        · obtain ⟨i, hi, hix⟩ := htake x ((h2 x).1 hx)
          rw [← hix]; exact hmono i (n + 1) (by omega) hn1
        · rw [List.mem_singleton] at hx; subst hx
          exact hmono n (n + 1) (by omega) hn1
    · rename_i hc
      have hc' : n ≠ 0 ∧ l.getD n default = l.getD (n - 1) default := by
        constructor
        · intro e; exact hc (.inl e)
        · by_cases e : l.getD n default = l.getD (n - 1) default
          · exact e
          · exact absurd (.inr e) hc
      refine ⟨h1, fun x => ?_, fun x hx hn1 => ?_⟩
      · rw [hlast, h2]
        simp only [List.mem_append, List.mem_singleton]
        constructor
        · exact .inl
        · rintro (h | h)
          · exact h
          · rw [h, hc'.2]
            rw [List.mem_take_iff_getElem]
            exact ⟨n - 1, by omega, by simp [show n - 1 < l.length by omega]⟩
      · obtain ⟨i, hi, hix⟩ := htake x ((h2 x).1 hx)
        rw [← hix]; exact hmono i (n + 1) (by omega) hn1
theorem tidyE_ss (l : List Elem) : SS (tidyE l) := (ddI_props (sortE_srt l) _ (Nat.le_refl _)).1
theorem tidyE_mem (l : List Elem) (x : Elem) : x ∈ tidyE l ↔ x ∈ l := by
  unfold tidyE compE
  rw [(ddI_props (sortE_srt l) _ (Nat.le_refl _)).2.1, List.take_length]
  exact (sortE_perm l).mem_iff

/-! ### insertion -/
theorem posE_spec {l : List Elem} {e : Elem} : ∀ i, i ≤ l.length → (∀ j, posE l e i ≤ j → j < i → 0 < cmpE (l.getD j default) e) ∧ (0 < posE l e i → ¬ 0 < cmpE (l.getD (posE l e i - 1) default) e) := by
  intro i
  induction i with
  | zero => intro _; exact ⟨fun j _ h => by omega, fun h => by simp [posE] at h⟩
  | succ i ih =>
    intro hi
    simp only [posE]
    split
    · rename_i hc
      obtain ⟨h1, h2⟩ := ih (by omega)
      refine ⟨fun j hj hji => ?_, h2⟩
      by_cases e : j = i
      · subst e; exact hc
      · exact h1 j hj (by omega)
    · rename_i hc
      exact ⟨fun j h1 h2 => by omega, fun _ => by simpa using hc⟩
theorem insE_props {l : List Elem} {e : Elem} (hs : SS l) : SS (insE l e) ∧ ∀ x, x ∈ insE l e ↔ x = e ∨ x ∈ l := by
  obtain ⟨h1, h2⟩ := posE_spec (l := l) (e := e) l.length (Nat.le_refl _)
  have hp := posE_le (l := l) (e := e) l.length
  have hlt : ∀ i j, i < j → j < l.length → cmpE (l.getD i default) (l.getD j default) < 0 := by
    intro i j hij hj
    have := List.pairwise_iff_getElem.1 hs i j (by omega) hj hij
    simpa [hj, show i < l.length by omega] using this
  unfold insE
  split
  · rename_i hf
    simp only [foundE, Bool.and_eq_true, decide_eq_true_eq] at hf
    refine ⟨hs, fun x => ⟨.inr, ?_⟩⟩
    rintro (rfl | h)
    · have := cmpE_eq.1 hf.2
      rw [← this]
      have hlt' : posE l x l.length - 1 < l.length := by omega
      simp [hlt']
    · exact h
  · rename_i hf
    generalize hpe : posE l e l.length = p at *
    have hle : ∀ i, i < p → cmpE (l.getD i default) e < 0 := by
      intro i hi
      have hlast : cmpE (l.getD (p - 1) default) e < 0 := by
        have g1 := h2 (by omega)
        have g2 : cmpE (l.getD (p - 1) default) e ≠ 0 := by
          intro e0
          apply hf
          simp only [foundE, hpe, Bool.and_eq_true, decide_eq_true_eq]
          exact ⟨by omega, e0⟩
        omega
      by_cases e0 : i = p - 1
      · subst e0; exact hlast
      · exact cmpE_trans (hlt i (p - 1) (by omega) (by omega)) hlast
    have hge : ∀ j, p ≤ j → j < l.length → cmpE e (l.getD j default) < 0 := by
      intro j hj hjl
      have := h1 j hj hjl
      rw [cmpE_anti]; omega
    refine ⟨?_, fun x => ?_⟩
    · simp only [SS, List.pairwise_append, List.pairwise_cons]
      refine ⟨hs.sublist (List.take_sublist _ _), ⟨fun y hy => ?_, hs.sublist (List.drop_sublist _ _)⟩, fun x hx y hy => ?_⟩
      · rw [List.mem_drop_iff_getElem] at hy
        obtain ⟨j, hj, rfl⟩ := hy
        have := hge (p + j) (by omega) (by omega)
        simpa [show p + j < l.length by omega] using this
      · rw [List.mem_take_iff_getElem] at hx
        obtain ⟨i, hi, rfl⟩ := hx
        have g1 := hle i (by omega)
        rw [show l.getD i default = l[i] by simp [show i < l.length by omega]] at g1
        rcases List.mem_cons.1 hy with rfl | hy
        · exact g1
        · rw [List.mem_drop_iff_getElem] at hy
          obtain ⟨j, hj, rfl⟩ := hy
          have := hlt i (p + j) (by omega) (by omega)
          simpa [show p + j < l.length by omega, show i < l.length by omega] using this
    · simp only [List.mem_append, List.mem_cons]
      constructor
      · rintro (h | h | h)
        · exact .inr (List.mem_of_mem_take h)
        · exact .inl h
        · exact .inr (List.mem_of_mem_drop h)
      · rintro (h | h)
        · exact .inr (.inl h)
        · rw [← List.take_append_drop p l, List.mem_append] at h
          rcases h with h | h
          · exact .inl h
          · exact .inr (.inr h)
theorem allE_props : ∀ (l acc : List Elem), SS acc → SS (l.foldl insE acc) ∧ ∀ x, x ∈ l.foldl insE acc ↔ x ∈ acc ∨ x ∈ l := by
  intro l
  induction l with
  | nil => intro acc h; exact ⟨h, by simp⟩
  | cons y l ih =>
    intro acc h
    obtain ⟨g1, g2⟩ := insE_props (e := y) h
    obtain ⟨h1, h2⟩ := ih (insE acc y) g1
    refine ⟨h1, fun x => ?_⟩
    simp only [List.foldl_cons]
    rw [h2, g2, List.mem_cons]
    constructor
    · rintro ((h | h) | h)
      · exact .inr (.inl h)
      · exact .inl h
      · exact .inr (.inr h)
    · rintro (h | h | h)
      · exact .inl (.inr h)
      · exact .inl (.inl h)
      · exact .inr h

/-! ### minimal elements -/
theorem filter_lt {l : List Elem} {p q : Elem → Bool} (hpq : ∀ x, p x = true → q x = true) {y : Elem} (hy : y ∈ l) (hq : q y = true) (hp : p y = false) : (l.filter p).length < (l.filter q).length := by
  induction l with
  | nil => cases hy
  | cons x l ih =>
    have hle : ∀ l : List Elem, (l.filter p).length ≤ (l.filter q).length := by
      intro l
      induction l with
      | nil => simp
      | cons z l ih =>
        simp only [List.filter_cons]
        by_cases h1 : p z = true
        · rw [if_pos h1, if_pos (hpq z h1)]; simp; exact ih
        · rw [if_neg h1]; split
          · simp; omega
          · exact ih
    simp only [List.filter_cons]
    rcases List.mem_cons.1 hy with rfl | hy
    · rw [if_neg (by rw [hp]; decide), if_pos hq]
      have := hle l
      simp; omega
    · have := ih hy
      by_cases h1 : p x = true
      · rw [if_pos h1, if_pos (hpq x h1)]; simp; exact this
      · rw [if_neg h1]; split
        · simp; omega
        · exact this
theorem min_below (l : List Elem) : ∀ (n : Nat) (b : Elem), b ∈ l → (l.filter fun z => decide (cmpE z b < 0)).length ≤ n → ∃ z ∈ l, leqE z b = true ∧ l.any (abvE z) = false := by
  intro n
  induction n with
  | zero =>
    intro b hb hn
    refine ⟨b, hb, leqE_refl b, ?_⟩
    rw [List.any_eq_false]
    intro y hy hab
    have : y ∈ l.filter fun z => decide (cmpE z b < 0) := List.mem_filter.2 ⟨hy, by simpa using abvE_lt hab⟩
    have := List.length_pos_of_mem this
    omega
  | succ n ih =>
    intro b hb hn
    cases hm : l.any (abvE b) with
    | false => exact ⟨b, hb, leqE_refl b, hm⟩
    | true =>
      rw [List.any_eq_true] at hm
      obtain ⟨y, hy, hab⟩ := hm
      have hlt := abvE_lt hab
      have hfl : (l.filter fun z => decide (cmpE z y < 0)).length < (l.filter fun z => decide (cmpE z b < 0)).length := by
        refine filter_lt (y := y) (fun x hx => ?_) hy (by simpa using hlt) (by rw [cmpE_eq.2 rfl]; decide)
        simp only [decide_eq_true_eq] at hx ⊢
        exact cmpE_trans hx hlt
      obtain ⟨z, hz, h1, h2⟩ := ih y hy (by omega)
      exact ⟨z, hz, leqE_trans h1 (abvE_iff.1 hab).1, h2⟩
theorem min_of (l : List Elem) {b : Elem} (hb : b ∈ l) : ∃ z ∈ l, leqE z b = true ∧ l.any (abvE z) = false := min_below l _ b hb (Nat.le_refl _)

theorem keepE_props {A : List Elem} (hA : SS A) : ∀ i, i ≤ A.length → SS ((A.take i).foldl keepE []) ∧ ∀ x, x ∈ (A.take i).foldl keepE [] ↔ x ∈ A.take i ∧ A.any (abvE x) = false := by
  intro i
  induction i with
  | zero => intro _; simp [SS]
  | succ i ih =>
    intro hi
    obtain ⟨h1, h2⟩ := ih (by omega)
    have hil : i < A.length := by omega
    rw [foldl_take keepE [] default hil]
    have hlast : A.take (i + 1) = A.take i ++ [A.getD i default] := by rw [List.take_add_one]; simp [hil]
    generalize hx : A.getD i default = x at hlast ⊢
    have hxA : x ∈ A := by rw [← hx]; simp [hil]
    have hlt : ∀ y ∈ A.take i, cmpE y x < 0 := by
      intro y hy
      rw [List.mem_take_iff_getElem] at hy
      obtain ⟨j, hj, rfl⟩ := hy
      have := List.pairwise_iff_getElem.1 hA j i (by omega) hil (by omega)
      rw [← hx]; simpa [hil] using this
    have hself : ∀ z : Elem, ¬ cmpE z z < 0 := fun z => by rw [cmpE_eq.2 rfl]; decide
    have hbef : ∀ y ∈ A, cmpE y x < 0 → y ∈ A.take i := by
      intro y hy hyx
      rw [← List.take_append_drop i A, List.mem_append] at hy
      rcases hy with hy | hy
      · exact hy
      · exfalso
        rw [List.mem_drop_iff_getElem] at hy
        obtain ⟨j, hj, rfl⟩ := hy
        by_cases e : j = 0
        · subst e
          have : A[i + 0] = x := by rw [← hx]; simp [hil]
          rw [this] at hyx; exact hself x hyx
        · have := List.pairwise_iff_getElem.1 hA i (i + j) hil (by omega) (by omega)
          rw [show A[i] = x by rw [← hx]; simp [hil]] at this
          exact hself x (cmpE_trans this hyx)
    have hkey : (((A.take i).foldl keepE []).any fun b => leqE b x) = A.any (abvE x) := by
      rw [Bool.eq_iff_iff, List.any_eq_true, List.any_eq_true]
      constructor
      · rintro ⟨b, hb, hbx⟩
        obtain ⟨hb1, hb2⟩ := (h2 b).1 hb
        refine ⟨b, List.mem_of_mem_take hb1, abvE_iff.2 ⟨hbx, ?_⟩⟩
        rintro rfl
        exact hself b (hlt b hb1)
      · rintro ⟨y, hy, hyx⟩
        obtain ⟨z, hz, hz1, hz2⟩ := min_of A hy
        have hzx := leqE_trans hz1 (abvE_iff.1 hyx).1
        have hzlt : cmpE z x < 0 := by
          have g1 := leqE_cmp hz1
          have g2 := abvE_lt hyx
          by_cases e : cmpE z y = 0
          · rw [cmpE_eq] at e; subst e; exact g2
          · exact cmpE_trans (by omega) g2
        exact ⟨z, (h2 z).2 ⟨hbef z hz hzlt, hz2⟩, hzx⟩
    generalize (A.take i).foldl keepE [] = K at h1 h2 hkey ⊢
    unfold keepE
    rw [hkey]
    cases hm : A.any (abvE x) with
    | true =>
      rw [if_pos rfl]
      refine ⟨h1, fun y => ?_⟩
      rw [h2, hlast]
      simp only [List.mem_append, List.mem_singleton]
      constructor
      · rintro ⟨a, b⟩; exact ⟨.inl a, b⟩
      · rintro ⟨a | a, b⟩
        · exact ⟨a, b⟩
        · subst a; rw [hm] at b; cases b
    | false =>
      rw [if_neg (by decide)]
      refine ⟨?_, fun y => ?_⟩
      · simp only [SS, List.pairwise_append]
        refine ⟨h1, by simp, fun a ha b hb => ?_⟩
        rw [List.mem_singleton] at hb; subst hb
        exact hlt a ((h2 a).1 ha).1
      · rw [hlast]
        simp only [List.mem_append, List.mem_singleton, h2]
        constructor
        · rintro (⟨a, b⟩ | a)
          · exact ⟨.inl a, b⟩
          · subst a; exact ⟨.inr rfl, hm⟩
        · rintro ⟨a | a, b⟩
          · exact .inl ⟨a, b⟩
          · exact .inr a

theorem any_congr {a b : List Elem} {p : Elem → Bool} (h : ∀ x, x ∈ a ↔ x ∈ b) : a.any p = b.any p := by
  rw [Bool.eq_iff_iff, List.any_eq_true, List.any_eq_true]
  exact ⟨fun ⟨x, h1, h2⟩ => ⟨x, (h x).1 h1, h2⟩, fun ⟨x, h1, h2⟩ => ⟨x, (h x).2 h1, h2⟩⟩
theorem refMin_props (l : List Elem) : SS (refMin l) ∧ ∀ x, x ∈ refMin l ↔ x ∈ l ∧ l.any (abvE x) = false := by
  obtain ⟨a1, a2⟩ := allE_props l [] (by simp [SS])
  have hmem : ∀ x, x ∈ allE l ↔ x ∈ l := fun x => by rw [allE, a2]; simp
  obtain ⟨h1, h2⟩ := keepE_props (A := allE l) a1 _ (Nat.le_refl _)
  rw [List.take_length] at h1 h2
  refine ⟨h1, fun x => ?_⟩
  show x ∈ (allE l).foldl keepE [] ↔ _
  rw [h2, hmem, any_congr hmem]
theorem covMin_props (l : List Elem) : SS (covMin l) ∧ ∀ x, x ∈ covMin l ↔ x ∈ l ∧ l.any (abvE x) = false := by
  refine ⟨tidyE_ss _, fun x => ?_⟩
  rw [covMin, tidyE_mem, List.mem_filter]
  simp [keepM]
theorem covMin_ref (l : List Elem) : covMin l = refMin l :=
  ss_unique (covMin_props l).1 (refMin_props l).1 fun x => by rw [(covMin_props l).2, (refMin_props l).2]
theorem covMin_any (l : List Elem) (e : Elem) : (covMin l).any (fun b => leqE b e) = l.any fun b => leqE b e := by
  rw [Bool.eq_iff_iff, List.any_eq_true, List.any_eq_true]
  constructor
  · rintro ⟨x, h1, h2⟩; exact ⟨x, ((covMin_props l).2 x |>.1 h1).1, h2⟩
  · rintro ⟨x, h1, h2⟩
    obtain ⟨z, hz, hz1, hz2⟩ := min_of l h1
    exact ⟨z, ((covMin_props l).2 z).2 ⟨hz, hz2⟩, leqE_trans hz1 h2⟩
theorem covMin_idem (l : List Elem) : covMin (covMin l) = covMin l := by
  refine ss_unique (covMin_props _).1 (covMin_props l).1 fun x => ?_
  rw [(covMin_props (covMin l)).2]
  constructor
  · exact fun h => h.1
  · intro h
    refine ⟨h, ?_⟩
    have := ((covMin_props l).2 x).1 h
    rw [List.any_eq_false] at this ⊢
    exact fun y hy => this.2 y (((covMin_props l).2 y).1 hy).1
theorem covMin_sub {l : List Elem} {x : Elem} (h : x ∈ covMin l) : x ∈ l := (((covMin_props l).2 x).1 h).1
theorem covMin_len (l : List Elem) : (covMin l).length ≤ l.length := by
  have h1 := ddI_len (sortE (l.filter (keepM l))) (sortE (l.filter (keepM l))).length
  have h2 := sortE_len (l.filter (keepM l))
  have h3 := List.length_filter_le (keepM l) l
  show (ddI _ _).length ≤ _
  omega
end Go.Proofs.YtpcmibeefiajaaaGreatDoor
namespace Go.Proofs.YtpcmibeefiajaaaGreatDoor
open Go.Ab Go.Proofs
set_option maxRecDepth 100000

theorem CallZ.lendG {P : Program} {dr b : Bool} {f : FuncId} {args args' : List V} {res : V} {h : Hz} {n : Nat} {K : V → Hz → Prop} (S : b = true → SpecZ P f args' res) (hs : b = true → T.subL (fun _ => True) h.toHp (V.toL args') (V.toL args)) (hh : res.toT.hard = true) (hr : res.free = true) (hK : K res h) : CallZ P dr (some b) f args h n K :=
  ⟨res, fun e => AFn.lend (S e) (hs e) hh (fun _ e => by cases e) ⟨rfl, rfl⟩, hr, hK⟩
/-- An owned row of one element, lent. -/
theorem lend1 {h : Hz} {j : Nat} {e : Elem} {Z : Nat → Prop} (hz : Z j) (q : h.get j = some (.row Y.api_Element 3 .nil [.dat (.elem e)])) : T.sub Z h.toHp (V.row 3 false (.elems [e])).toT (V.own j).toT := by
  show T.sub Z h.toHp (.sl 3 false [eElem e]) (.own j)
  simp only [T.sub]
  exact ⟨trivial, hz, rfl, by decide, Y.api_Element, toHp_some q⟩

theorem S.law05_CoverMinimizes (hsane : SpecZ Tryz.prog F.law05_sane [] (.bool true)) (l : List Elem) (e : Elem) (f : Bool) (hl : l.length < 2^29) (hs : smallF l) (he : e.counts.length < 2^30) :
    SpecZ Tryz.prog F.law05_CoverMinimizes [.row 3 f (.elems l), .dat (.elem e)] (.bool true) := by
  have hm : smallF (covMin l) := fun x hx => hs x (covMin_sub hx)
  have hml : (covMin l).length < 2^29 := Nat.lt_of_le_of_lt (covMin_len l) hl
  have he1 : smallE [e] := fun x hx => by rw [List.mem_singleton] at hx; subst hx; omega
  refine SpecZ.of Bd.law05_CoverMinimizes (by simp) rfl rfl ?_
  conv => whnf
  repeat (refine VC.mk (by first | exact rfl | exact fun h => h | exact fun h => ⟨h, h⟩ | exact trivial | (intro h; rw [h]; rfl) | (intro h; simp [h]; done) | (simp only [okI, Rw.rng] at *; first | omega | (simp_all; done) | (simp_all; omega))) ?_; conv => whnf)
  refine CallZ.pure (S.law05_wide l f (by omega) hs.e) rfl ?_
  generalize wideL l = W
  cases W with
  | true =>
    conv => whnf
    repeat (refine VC.mk (by first | exact rfl | exact fun h => h | exact fun h => ⟨h, h⟩ | exact trivial | (intro h; rw [h]; rfl) | (intro h; simp [h]; done) | (simp only [okI, Rw.rng] at *; first | omega | (simp_all; done) | (simp_all; omega))) ?_; conv => whnf)
    refine Fork.mk (fun h => by cases h) (fun _ => ?_)
    conv => whnf
    repeat (refine VC.mk (by first | (intro h; cases h) | first | exact rfl | exact fun h => h | exact fun h => ⟨h, h⟩ | exact trivial | (intro h; rw [h]; rfl) | (intro h; simp [h]; done) | (simp only [okI, Rw.rng] at *; first | omega | (simp_all; done) | (simp_all; omega))) ?_; conv => whnf)
    refine CallZ.pureG (res := .bool true) (fun h => by cases h) rfl ?_
    conv => whnf
    repeat (refine VC.mk (by first | exact rfl | exact fun h => h | exact fun h => ⟨h, h⟩ | exact trivial | (intro h; rw [h]; rfl) | (intro h; simp [h]; done) | (simp only [okI, Rw.rng] at *; first | omega | (simp_all; done) | (simp_all; omega))) ?_; conv => whnf)
    refine Fork.mk (fun _ => ?_) (fun h => by cases h)
    conv => whnf
    repeat (refine VC.mk (by first | exact rfl | exact fun h => h | exact fun h => ⟨h, h⟩ | exact trivial | (intro h; rw [h]; rfl) | (intro h; simp [h]; done) | (simp only [okI, Rw.rng] at *; first | omega | (simp_all; done) | (simp_all; omega))) ?_; conv => whnf)
    refine CallZ.pure hsane rfl ?_
    conv => whnf
    repeat (refine VC.mk (by first | exact rfl | exact fun h => h | exact fun h => ⟨h, h⟩ | exact trivial | (intro h; rw [h]; rfl) | (intro h; simp [h]; done) | (simp only [okI, Rw.rng] at *; first | omega | (simp_all; done) | (simp_all; omega))) ?_; conv => whnf)
    exact EndZ.bool rfl
  | false =>
    conv => whnf
    repeat (refine VC.mk (by first | exact rfl | exact fun h => h | exact fun h => ⟨h, h⟩ | exact trivial | (intro h; rw [h]; rfl) | (intro h; simp [h]; done) | (simp only [okI, Rw.rng] at *; first | omega | (simp_all; done) | (simp_all; omega))) ?_; conv => whnf)
    refine Fork.mk (fun _ => ?_) (fun h => by cases h)
    conv => whnf
    repeat (refine VC.mk (by first | exact rfl | exact fun h => h | exact fun h => ⟨h, h⟩ | exact trivial | (intro h; rw [h]; rfl) | (intro h; simp [h]; done) | (simp only [okI, Rw.rng] at *; first | omega | (simp_all; done) | (simp_all; omega))) ?_; conv => whnf)
    refine CallZ.lendG (fun _ => S.law05_wide [e] false (show 1 < 2^40 by decide) he1) (fun _ => And.intro (lend1 trivial rfl) trivial) rfl rfl ?_
    generalize wideL [e] = W
    cases W with
    | true =>
      conv => whnf
      repeat (refine VC.mk (by first | exact rfl | exact fun h => h | exact fun h => ⟨h, h⟩ | exact trivial | (intro h; rw [h]; rfl) | (intro h; simp [h]; done) | (simp only [okI, Rw.rng] at *; first | omega | (simp_all; done) | (simp_all; omega))) ?_; conv => whnf)
      refine Fork.mk (fun _ => ?_) (fun h => by cases h)
      conv => whnf
      repeat (refine VC.mk (by first | exact rfl | exact fun h => h | exact fun h => ⟨h, h⟩ | exact trivial | (intro h; rw [h]; rfl) | (intro h; simp [h]; done) | (simp only [okI, Rw.rng] at *; first | omega | (simp_all; done) | (simp_all; omega))) ?_; conv => whnf)
      refine CallZ.pure hsane rfl ?_
      conv => whnf
      repeat (refine VC.mk (by first | exact rfl | exact fun h => h | exact fun h => ⟨h, h⟩ | exact trivial | (intro h; rw [h]; rfl) | (intro h; simp [h]; done) | (simp only [okI, Rw.rng] at *; first | omega | (simp_all; done) | (simp_all; omega))) ?_; conv => whnf)
      exact EndZ.bool rfl
    | false =>
      conv => whnf
      repeat (refine VC.mk (by first | exact rfl | exact fun h => h | exact fun h => ⟨h, h⟩ | exact trivial | (intro h; rw [h]; rfl) | (intro h; simp [h]; done) | (simp only [okI, Rw.rng] at *; first | omega | (simp_all; done) | (simp_all; omega))) ?_; conv => whnf)
      refine Fork.mk (fun h => by cases h) (fun _ => ?_)
      conv => whnf
      repeat (refine VC.mk (by first | exact rfl | exact fun h => h | exact fun h => ⟨h, h⟩ | exact trivial | (intro h; rw [h]; rfl) | (intro h; simp [h]; done) | (simp only [okI, Rw.rng] at *; first | omega | (simp_all; done) | (simp_all; omega))) ?_; conv => whnf)
      refine CallZ.pure (S.cover_Minimize l f hl hs.e) rfl ?_
      have hsame1 : SpecZ Tryz.prog F.r05_Same [.row 3 false (.elems (covMin l)), .row 3 false (.elems (refMin l))] (.bool true) := by
        have := S.r05_Same (covMin l) (refMin l) false false (by omega) (by rw [← covMin_ref]; omega) hm.e (by rw [← covMin_ref]; exact hm.e)
        rwa [decide_eq_true (covMin_ref l)] at this
      have hsame2 : SpecZ Tryz.prog F.r05_Same [.row 3 false (.elems (covMin (covMin l))), .row 3 false (.elems (covMin l))] (.bool true) := by
        have := S.r05_Same (covMin (covMin l)) (covMin l) false false (by rw [covMin_idem]; omega) (by omega) (by rw [covMin_idem]; exact hm.e) hm.e
        rwa [decide_eq_true (covMin_idem l)] at this
      have hcon1 := S.cover_Contains l e f (by omega) hs.e (by omega)
      have hcon2 := S.r05_Contains l e f (by omega) hs.e (by omega)
      have hcon3 := S.cover_Contains (covMin l) e false (by omega) hm.e (by omega)
      rw [covMin_any] at hcon3
      have hmin2 := S.cover_Minimize (covMin l) false hml hm.e
      have href := S.r05_Minimize l f hl hs
      generalize covMin (covMin l) = m2 at hsame2 hmin2
      generalize (l.any fun b => leqE b e) = c at hcon1 hcon2 hcon3
      conv => whnf
      repeat (refine VC.mk (by first | exact rfl | exact fun h => h | exact fun h => ⟨h, h⟩ | exact trivial | (intro h; rw [h]; rfl) | (intro h; simp [h]; done) | (simp only [okI, Rw.rng] at *; first | omega | (simp_all; done) | (simp_all; omega))) ?_; conv => whnf)
      refine CallZ.pure href rfl ?_
      conv => whnf
      repeat (refine VC.mk (by first | exact rfl | exact fun h => h | exact fun h => ⟨h, h⟩ | exact trivial | (intro h; rw [h]; rfl) | (intro h; simp [h]; done) | (simp only [okI, Rw.rng] at *; first | omega | (simp_all; done) | (simp_all; omega))) ?_; conv => whnf)
      refine CallZ.pure hsame1 rfl ?_
      conv => whnf
      repeat (refine VC.mk (by first | exact rfl | exact fun h => h | exact fun h => ⟨h, h⟩ | exact trivial | (intro h; rw [h]; rfl) | (intro h; simp [h]; done) | (simp only [okI, Rw.rng] at *; first | omega | (simp_all; done) | (simp_all; omega))) ?_; conv => whnf)
      refine CallZ.pureG (fun _ => hcon1) rfl ?_
      conv => whnf
      repeat (refine VC.mk (by first | exact rfl | exact fun h => h | exact fun h => ⟨h, h⟩ | exact trivial | (intro h; rw [h]; rfl) | (intro h; simp [h]; done) | (simp only [okI, Rw.rng] at *; first | omega | (simp_all; done) | (simp_all; omega))) ?_; conv => whnf)
      refine CallZ.pureG (fun _ => hcon2) rfl ?_
      cases c <;>
      · conv => whnf
        repeat (refine VC.mk (by first | exact rfl | exact fun h => h | exact fun h => ⟨h, h⟩ | exact trivial | (intro h; rw [h]; rfl) | (intro h; simp [h]; done) | (simp only [okI, Rw.rng] at *; first | omega | (simp_all; done) | (simp_all; omega))) ?_; conv => whnf)
        refine CallZ.pureG (fun _ => hcon3) rfl ?_
        conv => whnf
        repeat (refine VC.mk (by first | exact rfl | exact fun h => h | exact fun h => ⟨h, h⟩ | exact trivial | (intro h; rw [h]; rfl) | (intro h; simp [h]; done) | (simp only [okI, Rw.rng] at *; first | omega | (simp_all; done) | (simp_all; omega))) ?_; conv => whnf)
        refine CallZ.pureG (fun _ => hcon1) rfl ?_
        conv => whnf
        repeat (refine VC.mk (by first | exact rfl | exact fun h => h | exact fun h => ⟨h, h⟩ | exact trivial | (intro h; rw [h]; rfl) | (intro h; simp [h]; done) | (simp only [okI, Rw.rng] at *; first | omega | (simp_all; done) | (simp_all; omega))) ?_; conv => whnf)
        refine CallZ.pureG (fun _ => hmin2) rfl ?_
        conv => whnf
        repeat (refine VC.mk (by first | exact rfl | exact fun h => h | exact fun h => ⟨h, h⟩ | exact trivial | (intro h; rw [h]; rfl) | (intro h; simp [h]; done) | (simp only [okI, Rw.rng] at *; first | omega | (simp_all; done) | (simp_all; omega))) ?_; conv => whnf)
        refine CallZ.pureG (fun _ => hsame2) rfl ?_
        conv => whnf
        repeat (refine VC.mk (by first | exact rfl | exact fun h => h | exact fun h => ⟨h, h⟩ | exact trivial | (intro h; rw [h]; rfl) | (intro h; simp [h]; done) | (simp only [okI, Rw.rng] at *; first | omega | (simp_all; done) | (simp_all; omega))) ?_; conv => whnf)
        refine CallZ.pureG (fun _ => hsane) rfl ?_
        conv => whnf
        repeat (refine VC.mk (by first | exact rfl | exact fun h => h | exact fun h => ⟨h, h⟩ | exact trivial | (intro h; rw [h]; rfl) | (intro h; simp [h]; done) | (simp only [okI, Rw.rng] at *; first | omega | (simp_all; done) | (simp_all; omega))) ?_; conv => whnf)
        exact EndZ.bool rfl
end Go.Proofs.YtpcmibeefiajaaaGreatDoor
