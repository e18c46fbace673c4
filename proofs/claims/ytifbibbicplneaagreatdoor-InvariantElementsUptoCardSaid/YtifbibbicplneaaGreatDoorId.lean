/-
 A part of the proof. No condition.
-/
import Derived.Test.YtifbibbicplneaaGreatDoorIc
namespace Go.Proofs.YtifbibbicplneaaGreatDoor
open Go.Ab Go.Proofs
set_option maxRecDepth 100000
theorem S.sQ (p : aS) (k : Clause) (e : Elem) (hp : bg p) (hk : lT k) (he : e.counts.length < 2^30) : aj Tryz.prog 30 [.dat (.bT p), .dat (.clause k), .dat (.elem e)] (Js p k e) := by
 refine aj.of Bd.sQ (by simp) rfl rfl ?_
 conv => whnf
 refine ah.pure (S.ku p k hp hk) rfl ?_
 conv => whnf
 refine ⟨fun h1 => ?_, fun h1 => ?_⟩
 ·have hv : (Gn p k != 0) = true := h1
  have hE : Dl p k e = Gn p k := by rw [Dl, hv]; rfl
  have hz : (Gn p k == 0) = false := beq_eq_false_iff_ne.2 (Gh hv)
  conv => whnf
  exact ak.eqv (by rw [Js, hE, hz]; rfl)
 have hv : (Gn p k != 0) = false := h1
 have hE : Dl p k e = cu (uY p e || iO e == 0) 1 := by rw [Dl, hv]; rfl
 conv => whnf
 refine ah.pure (S.zD p e hp he) rfl ?_
 conv => whnf
 refine VC.mk id ?_
 conv => whnf
 refine ah.cO (fun _ => S.pF e (by omega)) rfl ?_
 conv => whnf
 repeat (refine VC.mk (by first | exact id | (intro h; rw [h]; rfl)) ?_; conv => whnf)
 refine ⟨fun h2 => ?_, fun h2 => ?_⟩
 ·have h2' : (uY p e || iO e == 0) = true := by
   have h3 : (!(!(uY p e)) || iO e == 0) = true := h2
   rw [Bool.not_not] at h3; exact h3
  rw [h2'] at hE
  conv => whnf
  exact ak.eqv (by rw [Js, hE]; rfl)
 have h2' : (uY p e || iO e == 0) = false := by
  have h3 : (!(!(uY p e)) || iO e == 0) = false := h2
  rw [Bool.not_not] at h3; exact h3
 rw [h2'] at hE
 have hE0 : Dl p k e = 0 := hE
 obtain ⟨hf, h0, hkv, _⟩ := Sv hE0
 conv => whnf
 refine ah.pure (S.rU k e hf hkv) rfl ?_
 conv => whnf
 have href : Jw k e = holdsB k e := hf.cl.elim fun _ c => LH c fun x hx => (hf.ok x hx).1
 exact ak.eqv (by rw [Js, hE0, href]; rfl)
theorem QA {α : Type} {l : List α} {p : α → Bool} {i : Nat} {d : α} (h : (l.take i).all (fun x => !p x) = true) (hi : i < l.length) (hp : p (l.getD i d) = true) : l.findIdx p = i := by
 induction i generalizing l with
 | zero =>
  cases l with
  | nil => simp at hi
  | cons x r => rw [List.findIdx_cons, show p x = true from hp]; rfl
 | succ i ih =>
  cases l with
  | nil => simp at hi
  | cons x r =>
   simp only [List.take_succ_cons, List.all_cons, Bool.and_eq_true, Bool.not_eq_true'] at h
   rw [List.findIdx_cons, h.1]
   simp only [cond_false]
   rw [ih h.2 (by simpa using hi) (by simpa using hp)]
theorem LW {α : Type} {l : List α} {p : α → Bool} (h : l.all (fun x => !p x) = true) : l.findIdx p = l.length := by
 have := NU (l := l) (p := p)
 rw [h] at this; exact beq_iff_eq.1 this
theorem UA {st : List Int} {l : List Clause} {es : List Elem} : yu l (dQ st es) = l.findIdx fun k => es.any fun e => jg st e && !holdsB k e := by
 unfold yu dQ
 congr 1
 funext k
 rw [List.any_filter]
theorem S.sW (p : aS) (q : Prop') (l : List Clause) (es : List Elem) (n vs : Nat) (f g : Bool) (hp : bg p) (hq : iG q) (hv : jm p q = 0) (hl : jZ n vs l) (ED : n ≤ 6) (hvs : vs ≤ 3) (he : ∀ e ∈ es, e.counts.length = n ∧ zl e.counts) (hes : es.length < 2^30) :
  aj Tryz.prog 60 [.dat (.bT p), .dat (.prop q), .row 4 f (.clauses l), .row 3 g (.elems es)] (.int (orM l.length (yu l (dQ (kT p q) es)))) := by
 have hst := J7 hp hq
 have hk1 := hl.len
 rw [UA]
 refine aj.of Bd.sW (by simp) rfl rfl ?_
 conv => whnf
 refine ah.pure (S.vk p q hp hq hv) rfl ?_
 conv => whnf
 refine aG.same [2, 3, 9] (fun i : Nat => [(11, .int i)]) (fun i => i ≤ l.length ∧ (l.take i).all (fun k => !(es.any fun e => jg (kT p q) e && !holdsB k e)) = true) (fun i => l.length - i) 0 rfl (by decide) rfl (fun _ => rfl) ⟨by omega, by simp⟩ ⟨⟨_, rfl, rfl⟩, trivial⟩ ?_
 conv => whnf
 refine ⟨rfl, ?_⟩
 rintro i ⟨hi, hall⟩
 conv => whnf
 refine ⟨fun h3 => ?_, fun h3 => ?_⟩
 ·have hi' : i < l.length := by simpa using h3
  conv => whnf
  refine aG.same [2, 3, 9, 11] (fun j : Nat => [(12, .int j)]) (fun j => j ≤ es.length ∧ (es.take j).any (fun e => jg (kT p q) e && !holdsB (l.getD i default) e) = false) (fun j => es.length - j) 0 rfl (by decide) rfl (fun _ => rfl) ⟨by omega, by simp⟩ ⟨⟨_, rfl, rfl⟩, trivial⟩ ?_
  conv => whnf
  refine ⟨rfl, ?_⟩
  rintro j ⟨hj, hany⟩
  conv => whnf
  refine ⟨fun h4 => ?_, fun h4 => ?_⟩
  ·have hj' : j < es.length := by simpa using h4
   obtain ⟨e1, e2⟩ := he _ (getM (d := default) hj')
   obtain ⟨hf, hkv⟩ := hl.fit e1 e2 ED hvs hi'
   have href : Jw (l.getD i default) (es.getD j default) = holdsB (l.getD i default) (es.getD j default) := hf.cl.elim fun _ c => LH c fun x hx => (hf.ok x hx).1
   conv => whnf
   refine .mk (by simp only [Rw.rng] at *; omega) ?_
   conv => whnf
   refine ah.pure (S.qF (kT p q) (es.getD j default) false (by omega) (by omega)) rfl ?_
   conv => whnf
   repeat (refine VC.mk (by first | exact id | exact fun h => ⟨h, h⟩ | (intro h; (repeat' apply And.intro) <;> first | exact h | omega | (simp only [Rw.mD]; omega) | (simp only [Rw.rng]; omega))) ?_; conv => whnf)
   refine ah.cO (fun _ => S.rU (l.getD i default) (es.getD j default) hf hkv) rfl ?_
   conv => whnf
   repeat (refine VC.mk id ?_; conv => whnf)
   rw [href]
   refine ⟨fun h5 => ?_, fun h5 => ?_⟩
   ·have h5' : (jg (kT p q) (es.getD j default) && !holdsB (l.getD i default) (es.getD j default)) = true := h5
    conv => whnf
    refine ak.int ?_
    have hex : (es.any fun e => jg (kT p q) e && !holdsB (l.getD i default) e) = true := fZ (d := default) hj' h5'
    have hfi := QA (p := fun k => es.any fun e => jg (kT p q) e && !holdsB k e) (d := default) hall hi' hex
    rw [hfi, orM, show (i == l.length) = false from beq_eq_false_iff_ne.2 (by omega)]; rfl
   ·have h5' : (jg (kT p q) (es.getD j default) && !holdsB (l.getD i default) (es.getD j default)) = false := h5
    conv => whnf
    refine .mk (by simp only [okI] at *; omega) ?_
    conv => whnf
    refine ⟨j + 1, ⟨by omega, ?_⟩, by omega, ⟨⟨_, rfl, rfl⟩, trivial⟩, ?_, rfl⟩
    ·rw [jF (d := default) hj' hany]; exact h5'
    ·repeat' (first | exact trivial | exact ⟨_, rfl, rfl⟩ | constructor)
  ·have hj' : es.length ≤ j := by simpa using h4
   rw [List.take_of_length_le hj'] at hany
   conv => whnf
   refine .mk (by simp only [okI] at *; omega) ?_
   conv => whnf
   refine ⟨i + 1, ⟨by omega, ?_⟩, by omega, ⟨⟨_, rfl, rfl⟩, trivial⟩, ?_, rfl⟩
   ·rw [kC (d := default) hi' hall, hany]; rfl
   ·repeat' (first | exact trivial | exact ⟨_, rfl, rfl⟩ | constructor)
 ·have hi' : l.length ≤ i := by simpa using h3
  rw [List.take_of_length_le hi'] at hall
  conv => whnf
  refine ak.int ?_
  rw [LW hall, orM, show (l.length == l.length) = true from beq_self_eq_true _]; rfl
theorem S.jy (p : aS) (q : Prop') (l : List Clause) (f : Bool) (hp : bg p) (hq : iG q) (hl : SmallK l) : aj Tryz.prog 18 [.dat (.bT p), .dat (.prop q), .row 4 f (.clauses l)] (EG p q l) := by
 refine aj.of Bd.jy (by simp) rfl rfl ?_
 conv => whnf
 refine ah.pure (S.rF p q hp hq) rfl ?_
 conv => whnf
 refine ⟨fun h1 => ?_, fun h1 => ?_⟩
 ·have he : pW p q l = qE p q := by rw [pW, show (qE p q != 0) = true from h1]; rfl
  conv => whnf
  exact ak.eqv (by rw [EG, he, show (qE p q != 0) = true from h1]; rfl)
 have he : pW p q l = ng p l := by rw [pW, show (qE p q != 0) = false from h1]; rfl
 conv => whnf
 refine ah.pure (S.pz p l f hp hl) rfl ?_
 conv => whnf
 refine ⟨fun h2 => ?_, fun h2 => ?_⟩
 ·conv => whnf
  exact ak.eqv (by rw [EG, he, show (ng p l != 0) = true from h2]; rfl)
 obtain ⟨hv, hin, _⟩ := zA (uZ h1)
 obtain ⟨hF, _⟩ := uF hin
 obtain ⟨hR, ab5⟩ := zx (uZ h2)
 have g1 := hF.pos; have g2 := hF.states; have g3 := hF.values
 have hrk := Qx (l := l)
 have YA : bU l ≤ 3 := rO fun k hk => (hR.cl k hk).two
 have hE : aj Tryz.prog 61 [.dat (.bT p), .int (bU l + 2)] (.row 3 false (.elems (eU (Oa l + 3) p.states.length (iM p)))) := by
  have := S.rV p p.states.length (iM p) (Oa l + 2) hp rfl g1 g2 rfl (by unfold iM; omega) (by omega)
  rw [hrk]; exact this
 have hok : ∀ e ∈ eU (Oa l + 3) p.states.length (iM p), e.counts.length = p.states.length ∧ zl e.counts := fun e he => by
  have := x9 (by omega) e he
  exact ⟨this.len, this.zl (by omega)⟩
 have JC : (eU (Oa l + 3) p.states.length (iM p)).length < 2^30 := by
  rw [oL]
  have h1 := og (b := Oa l + 3) (n := p.states.length) (by omega) g2
  have h2 : iM p * ((Oa l + 3)^p.states.length - 1) ≤ 3 * 531441 := Nat.mul_le_mul (by unfold iM; omega) (by omega)
  omega
 have hV : EG p q l = .fQ [.int (orM l.length (yu l (dQ (kT p q) (eU (Oa l + 3) p.states.length (iM p))))), .int 0] := by
  rw [EG, he, uZ h2]; rfl
 rw [hV]
 conv => whnf
 refine ah.pure (S.uU l f hl) rfl ?_
 conv => whnf
 refine .mk (by simp only [okI] at *; omega) ?_
 conv => whnf
 conv => whnf
 refine ah.pure (hE) rfl ?_
 conv => whnf
 refine ah.pure (S.sW p q l (eU (Oa l + 3) p.states.length (iM p)) p.states.length p.values.length f false hp hq hv hR g2 g3 hok JC) rfl ?_
 conv => whnf
 exact ak.eqv rfl
theorem S.sZ (q : Prop') (hq : iG q) : aj Tryz.prog 110 [.dat (.prop q)] (.int (ZQ q.bad)) := by
 have q2 := hq.bad
 refine aj.of Bd.sZ (by simp) rfl rfl ?_
 conv => whnf
 refine aG.same [1] (fun i : Nat => [(4, .int i), (3, .int ((q.bad.take i).foldl (fun m k => max m k.least) 0))]) (fun i => i ≤ q.bad.length) (fun i => q.bad.length - i) 0 rfl (by decide) rfl (fun _ => rfl) (Nat.zero_le _) ⟨⟨_, rfl, rfl⟩, ⟨_, rfl, rfl⟩, trivial⟩ ?_
 conv => whnf
 refine ⟨rfl, ?_⟩
 rintro i hi
 conv => whnf
 refine ⟨fun h3 => ?_, fun h3 => ?_⟩
 ·have hi' : i < q.bad.length := by simpa using h3
  have hlt := Sm (r := 0) hi'
  conv => whnf
  repeat (refine VC.mk (by simp only [okI, Rw.rng] at *; omega) ?_; conv => whnf)
  refine ⟨i + 1, by omega, by omega, ⟨⟨_, rfl, rfl⟩, ⟨_, rfl, ?_⟩, trivial⟩, ?_, rfl⟩
  ·rw [hlt]; rfl
  ·repeat' (first | exact trivial | exact ⟨_, rfl, rfl⟩ | constructor)
 ·have hi' : i = q.bad.length := by have : q.bad.length ≤ i := (by simpa using h3); omega
  subst hi'
  rw [List.take_length]
  conv => whnf
  exact ak.int rfl
set_option maxHeartbeats 1000000 in
theorem S.xq (p : aS) (q : Prop') (l : List Clause) (f : Bool) (hp : bg p) (hq : iG q) (hF : BN p) (hB : WL p.states.length q) (hR : jZ p.states.length p.values.length l) : aj Tryz.prog 69 [.dat (.bT p), .dat (.prop q), .row 4 f (.clauses l)] (YD (Gf p q l)) := by
 have g1 := hF.pos; have g2 := hF.states; have g3 := hF.values
 have q1 := hq.bad
 have hk1 := hR.len
 have YA : bU l ≤ 3 := rO fun k hk => (hR.cl k hk).two
 have ab6 := yj (l := l)
 have hlg := WM hB.least
 have hmd := WO (q := q) (l := l)
 have Sj : KD q l + 3 ≤ 9 := by omega
 have hE : aj Tryz.prog 61 [.dat (.bT p), .int (max (bU l) (ZQ q.bad) + 2)] (.row 3 false (.elems (eU (KD q l + 3) p.states.length (iM p)))) := by
  have := S.rV p p.states.length (iM p) (KD q l + 2) hp rfl g1 g2 rfl (by unfold iM; omega) (by omega)
  rw [hmd]; exact this
 have hok := x9 (b := KD q l + 3) (n := p.states.length) (vals := iM p) (by omega)
 have JC : (eU (KD q l + 3) p.states.length (iM p)).length ≤ 3 * 531441 := by
  rw [oL]
  have := og (b := KD q l + 3) (n := p.states.length) Sj g2
  exact Nat.mul_le_mul (by unfold iM; omega) (by omega)
 have hend : Gf p q l = TY (fun e => oW q e.counts) l (eU (KD q l + 3) p.states.length (iM p)) := rfl
 rw [hend]
 generalize eU (KD q l + 3) p.states.length (iM p) = es at hE JC hok ⊢
 have hmem : ∀ i x, (es.take i).foldl (sU (fun e => oW q e.counts) l) none = some x → x.counts.length = p.states.length := fun i x h => (hok x (List.mem_of_mem_take (Hg h))).len
 have WQ : TY (fun e => oW q e.counts) l es = (es.take es.length).foldl (sU (fun e => oW q e.counts) l) none := by rw [List.take_length]; rfl
 rw [WQ]
 refine aj.of Bd.xq (by simp) rfl (by rfl) ?_
 conv => whnf
 refine ah.pure (S.uU l f (hR.small g2 g3)) rfl ?_
 conv => whnf
 refine ah.pure (S.sZ q hq) rfl ?_
 conv => whnf
 refine .mk (by simp only [okI] at *; omega) ?_
 conv => whnf
 conv => whnf
 refine ah.pure (hE) rfl ?_
 conv => whnf
 conv => whnf
 refine aG.objs 50 [2, 4, 6, 8, 10] (fun i : Nat => [(11, .int i), (9, .bool ((es.take i).foldl (sU (fun e => oW q e.counts) l) none).isSome)]) (fun i => [(1, .box 30 7 (.dat (.prop q))), (2, .box 41 3 (.agg [.int 0, .row 0 true .nil])), (14, .box 41 3 (.dat (.elem (((es.take i).foldl (sU (fun e => oW q e.counts) l) none).getD zE))))]) (fun i => i ≤ es.length) (fun i => es.length - i) 0 [1, 2, 14] rfl (by decide) (fun _ => rfl) (Nat.zero_le _) ?_ ?_ ?_
 ·exact ⟨⟨_, rfl, .eq rfl⟩, ⟨_, rfl, .eq rfl⟩, trivial⟩
 ·exact ⟨⟨rfl, nofun, rfl, rfl, rfl, _, rfl, rfl, rfl, bC.of_eq rfl⟩, ⟨rfl, nofun, rfl, rfl, rfl, _, rfl, rfl, rfl, bC.of_eq rfl⟩, ⟨rfl, nofun, rfl, rfl, rfl, _, rfl, rfl, rfl, ES⟩, trivial⟩
 conv => whnf
 refine ⟨⟨⟨_, rfl, .eq rfl⟩, ⟨_, rfl, .eq rfl⟩, ⟨_, rfl, .eq rfl⟩, ⟨_, rfl, .eq rfl⟩, ⟨_, rfl, .eq rfl⟩, trivial⟩, rfl, ?_⟩
 rintro i hi
 have Am := hmem i
 conv => whnf
 refine ⟨fun h3 => ?_, fun h3 => ?_⟩
 ·have hi' : i < es.length := by simpa using h3
  have hue := hok _ (getM (d := default) hi')
  have y5 : (es.getD i default).counts.length = p.states.length := hue.len
  have ac9 := hue.zl Sj
  have hnx : (es.take (i + 1)).foldl (sU (fun e => oW q e.counts) l) none = sU (fun e => oW q e.counts) l ((es.take i).foldl (sU (fun e => oW q e.counts) l) none) (es.getD i default) := BX hi'
  generalize (es.take i).foldl (sU (fun e => oW q e.counts) l) none = s at *
  have hsl : (s.getD zE).counts.length ≤ 6 := by
   cases s with
   | none => exact show (0 : Nat) ≤ 6 by decide
   | some x => have := Am x rfl; show x.counts.length ≤ 6; omega
  have hsn : (!s.isSome) = s.isNone := by cases s <;> rfl
  have Sl : sU (fun e => oW q e.counts) l s (es.getD i default) = bif oW q (es.getD i default).counts && (gy l (es.getD i default) && (s.isNone || decide (iO (es.getD i default) < iO (s.getD zE)))) then some (es.getD i default) else s := rfl
  conv => whnf
  refine .mk (by simp only [Rw.rng] at *; omega) ?_
  conv => whnf
  refine ah.pure (S.qK q (es.getD i default).counts false hq (by rw [y5]; exact hB) (hue.nn Sj) (by rw [y5]; omega)) rfl ?_
  conv => whnf
  repeat (refine VC.mk (by first | exact id | exact fun h => ⟨h, h⟩ | (intro h; (repeat' apply And.intro) <;> first | exact h | omega | (simp only [Rw.mD]; omega) | (simp only [Rw.rng]; omega))) ?_; conv => whnf)
  refine ah.cO (fun _ => S.xg l (es.getD i default) f (by omega) (fun j hj => hR.fit y5 ac9 g2 g3 hj)) rfl ?_
  conv => whnf
  repeat (refine VC.mk (by first | exact id | (intro h; (repeat' apply And.intro) <;> first | exact h | omega | (simp only [Rw.mD]; omega) | (simp only [Rw.rng]; omega))) ?_; conv => whnf)
  refine ah.cO (fun _ => S.pF (es.getD i default) (by rw [y5]; omega)) rfl ?_
  conv => whnf
  refine VC.mk id ?_
  conv => whnf
  refine ah.cO (fun _ => S.pF (s.getD zE) (by omega)) rfl ?_
  conv => whnf
  repeat (refine VC.mk (by first | exact id | exact fun h => ⟨h, h⟩ | (intro h; simp_all; done)) ?_; conv => whnf)
  refine ⟨fun h5 => ?_, fun h5 => ?_⟩
  ·have h5' : (oW q (es.getD i default).counts && (gy l (es.getD i default) && (s.isNone || decide (iO (es.getD i default) < iO (s.getD zE))))) = true := by
    rw [← Bool.and_assoc, ← hsn]; exact h5
   rw [h5'] at Sl
   rw [Sl] at hnx
   have hfin := congrArg (fun s : Option Elem => (OV.box 41 3 (.dat (.elem (s.getD zE)))).aF.l) hnx
   have WR := congrArg (fun s : Option Elem => T.bool s.isSome) hnx
   conv => whnf
   repeat (refine VC.mk (by simp only [okI, Rw.rng] at *; omega) ?_; conv => whnf)
   refine ⟨i + 1, [1, 2, 14], by omega, by omega, ⟨⟨_, rfl, .eq rfl⟩, ⟨_, rfl, .eq ?_⟩, trivial⟩, ⟨⟨_, rfl, .eq rfl⟩, ⟨_, rfl, .eq rfl⟩, ⟨_, rfl, .eq rfl⟩, ⟨_, rfl, .eq rfl⟩, ⟨_, rfl, .eq rfl⟩, trivial⟩, ⟨rfl, nofun, rfl, rfl, rfl, _, rfl, rfl, rfl, bC.of_eq rfl⟩, ⟨rfl, nofun, rfl, rfl, rfl, _, rfl, rfl, rfl, bC.of_eq rfl⟩, ⟨rfl, nofun, rfl, rfl, rfl, _, rfl, rfl, rfl, bC.of_eq ?_⟩, trivial⟩
   ·exact WR
   ·exact hfin
  ·have h5' : (oW q (es.getD i default).counts && (gy l (es.getD i default) && (s.isNone || decide (iO (es.getD i default) < iO (s.getD zE))))) = false := by
    rw [← Bool.and_assoc, ← hsn]; exact h5
   rw [h5'] at Sl
   rw [Sl] at hnx
   have hfin := congrArg (fun s : Option Elem => (OV.box 41 3 (.dat (.elem (s.getD zE)))).aF.l) hnx
   have WR := congrArg (fun s : Option Elem => T.bool s.isSome) hnx
   conv => whnf
   refine .mk (by simp only [okI] at *; omega) ?_
   conv => whnf
   refine ⟨i + 1, [1, 2, 14], by omega, by omega, ⟨⟨_, rfl, .eq rfl⟩, ⟨_, rfl, .eq ?_⟩, trivial⟩, ⟨⟨_, rfl, .eq rfl⟩, ⟨_, rfl, .eq rfl⟩, ⟨_, rfl, .eq rfl⟩, ⟨_, rfl, .eq rfl⟩, ⟨_, rfl, .eq rfl⟩, trivial⟩, ⟨rfl, nofun, rfl, rfl, rfl, _, rfl, rfl, rfl, bC.of_eq rfl⟩, ⟨rfl, nofun, rfl, rfl, rfl, _, rfl, rfl, rfl, bC.of_eq rfl⟩, ⟨rfl, nofun, rfl, rfl, rfl, _, rfl, rfl, rfl, bC.of_eq ?_⟩, trivial⟩
   ·exact WR
   ·exact hfin
 ·have hi' : i = es.length := by have : es.length ≤ i := (by simpa using h3); omega
  subst hi'
  generalize (es.take es.length).foldl (sU (fun e => oW q e.counts) l) none = s at *
  conv => whnf
  exact ak.eqv rfl
theorem S.qh (p : aS) (q : Prop') (l : List Clause) (f : Bool) (hp : bg p) (hq : iG q) (hl : SmallK l) : aj Tryz.prog 25 [.dat (.bT p), .dat (.prop q), .row 4 f (.clauses l)] (Yk p q l) := by
 refine aj.of Bd.qh (by simp) rfl rfl ?_
 conv => whnf
 refine ah.pure (S.rF p q hp hq) rfl ?_
 conv => whnf
 refine ⟨fun h1 => ?_, fun h1 => ?_⟩
 ·have he : pW p q l = qE p q := by rw [pW, show (qE p q != 0) = true from h1]; rfl
  conv => whnf
  rw [Yk, he, show (qE p q != 0) = true from h1]
  exact ak.Sr
 have he : pW p q l = ng p l := by rw [pW, show (qE p q != 0) = false from h1]; rfl
 conv => whnf
 refine ah.pure (S.pz p l f hp hl) rfl ?_
 conv => whnf
 refine ⟨fun h2 => ?_, fun h2 => ?_⟩
 ·conv => whnf
  rw [Yk, he, show (ng p l != 0) = true from h2]
  exact ak.Sr
 obtain ⟨hv, hin, hk⟩ := zA (uZ h1)
 obtain ⟨hF, _⟩ := uF hin
 obtain ⟨hR, _⟩ := zx (uZ h2)
 rw [Yk, he, uZ h2]
 conv => whnf
 refine ah.pure (S.xq p q l f hp hq hF (Io hv hk) hR) rfl ?_
 conv => whnf
 exact ak.eqv rfl
theorem wU.abT {P : Program} {f : FuncId} {ts ts' : List T} {t : Nat → T} {o : Option Ob} (H : wU P f ts t o) {h : Hp} {n : Nat} {K : T → Hp → Prop} (Z : Nat → Prop) (hs : T.dH Z h ts ts') (hK : ∀ h0 : Hp, (∀ i, Z i → h0 i = none) → (∀ i, ¬ Z i → h0 i = h i) → K (t n) (oJ h0 n o)) :
  aT P f ts' h n K := by
 classical
 let h0 : Hp := fun i => if Z i then none else h i
 have hk0 : K (t n) (oJ h0 n o) := hK h0 (fun i hz => if_pos hz) (fun i hz => if_neg hz)
 refine aT.mono (post := fun t' h' => t' = t n ∧ h' = oJ h0 n o) ?_ fun _ _ ⟨h1, h2⟩ => h1 ▸ h2 ▸ hk0
 obtain ⟨_, hcl, hcall⟩ := wU.frame H h0 n
 refine ⟨⟨_, _, rfl, rfl⟩, hcl, fun F M E vs hk he hts hid hm hn => ?_⟩
 subst he
 have hE0 : (E.shut Z).h = h0 := by
  funext i
  cases hq : (E.shut Z).h i with
  | some ob => obtain ⟨h1, h2⟩ := rX hq; show some ob = if Z i then none else E.h i; rw [if_neg h2, h1]
  | none =>
   show none = if Z i then none else E.h i
   by_cases hz : Z i
   ·rw [if_pos hz]
   ·rw [if_neg hz]
    cases hq2 : E.h i with
    | none => rfl
    | some ob =>
     exfalso
     have : (E.shut Z).h i = some ob := by simp only [Env.shut]; rw [if_neg hz, hq2]
     rw [hq] at this; cases this
 refine (hcall F M (E.shut Z) vs (hk.shut _) hE0 (o9 hk _ _ hs _ hts) (T.ay (fun _ h => h.elim) _ (dh H.free)) (fun i ob hi => ?_) hn).mono ?_
 ·have hi' : (if Z i then none else E.h i) = some ob := hi
  split at hi'
  ·cases hi'
  ·exact hm i ob hi'
 ·rintro e w' ⟨v, t', E', rfl, rfl, ⟨rfl, hh⟩, hv, hk', hext, hS, h7, h8⟩
  refine ⟨v, t n, E', rfl, rfl, ⟨rfl, hh⟩, hv, hk', (Om F E Z).trans hext, fun i hi hi2 => ?_, h7, h8⟩
  obtain ⟨a, b, c⟩ := hS i hi hi2
  refine ⟨?_, b, c⟩
  obtain ⟨ob, hob⟩ := Option.isSome_iff_exists.1 a
  rw [(rX hob).1]; rfl
def Sz (x y : Int) : Int := bif x != 0 then x else y
theorem Iq {x y : Int} (h : (x != 0) = true) : Sz x y = x := by rw [Sz, h]; rfl
theorem xu {x y : Int} (h : (x != 0) = false) : Sz x y = y := by rw [Sz, h]; rfl
def yQ : List (List Int) → List (List Int) → Int
 | [], [] => 0
 | [], _ :: _ => -1
 | _ :: _, [] => 1
 | x :: a, y :: b => Sz (cmpL x y) (yQ a b)
def UC (k j : Clause) : Int := Sz (JD k.each.length j.each.length) (Sz (yQ k.each j.each) (Sz (cmpL k.values j.values) (cmpL k.some j.some)))
theorem Ir {a b : List (List Int)} {i : Nat} (ha : i < a.length) (hb : i < b.length) : yQ (a.drop i) (b.drop i) = Sz (cmpL (a.getD i []) (b.getD i [])) (yQ (a.drop (i + 1)) (b.drop (i + 1))) := by
 rw [aZ [] ha, aZ [] hb]; rfl
theorem Aw {a b : List (List Int)} {i : Nat} (hi : a.length ≤ i ∨ b.length ≤ i) (h1 : i ≤ a.length) (h2 : i ≤ b.length) : yQ (a.drop i) (b.drop i) = if a.length < b.length then -1 else if b.length < a.length then 1 else 0 := by
 by_cases ha : a.length ≤ i
 ·have e : a.drop i = [] := List.drop_eq_nil_of_le ha
  rw [e]
  by_cases hb : b.length ≤ i
  ·rw [List.drop_eq_nil_of_le hb, if_neg (by omega), if_neg (by omega)]; rfl
  ·rw [aZ [] (by omega), if_pos (by omega)]; rfl
 ·have hb : b.length ≤ i := by omega
  rw [List.drop_eq_nil_of_le hb, aZ [] (by omega), if_neg (by omega), if_pos (by omega)]; rfl
theorem S.YG (x y z w : Int) (f : Bool) : aj Tryz.prog 88 [.row 0 f (.ints [x, y, z, w])] (.int (Sz x (Sz y (Sz z w)))) := by
 refine aj.of Bd.Ce (by simp) rfl rfl ?_
 conv => whnf
 refine aG.times 5 rfl ?_
 conv => whnf
 refine Fork.mk (fun _ => ?_) (fun q => absurd (q.symm.trans ((rfl : decide ((0 : Int) < ([x, y, z, w].length : Int)) = true))) Bool.false_ne_true)
 conv => whnf
 refine .mk (by simp only [Rw.rng] at *; first | omega | simp_all <;> omega) ?_
 conv => whnf
 refine ⟨fun h1 => ?_, fun h1 => ?_⟩
 ·replace h1 : (x != 0) = true := h1
  conv => whnf
  exact ak.int (by rw [Iq h1]; rfl)
 replace h1 : (x != 0) = false := h1
 conv => whnf
 refine .mk (by simp only [okI] at *; first | omega | simp_all <;> omega) ?_
 conv => whnf
 refine Fork.mk (fun _ => ?_) (fun q => absurd (q.symm.trans ((rfl : decide ((1 : Int) < ([x, y, z, w].length : Int)) = true))) Bool.false_ne_true)
 conv => whnf
 refine .mk (by simp only [Rw.rng] at *; first | omega | simp_all <;> omega) ?_
 conv => whnf
 refine ⟨fun h2 => ?_, fun h2 => ?_⟩
 ·replace h2 : (y != 0) = true := h2
  conv => whnf
  exact ak.int (by rw [xu h1, Iq h2]; rfl)
 replace h2 : (y != 0) = false := h2
 conv => whnf
 refine .mk (by simp only [okI] at *; first | omega | simp_all <;> omega) ?_
 conv => whnf
 refine Fork.mk (fun _ => ?_) (fun q => absurd (q.symm.trans ((rfl : decide ((2 : Int) < ([x, y, z, w].length : Int)) = true))) Bool.false_ne_true)
 conv => whnf
 refine .mk (by simp only [Rw.rng] at *; first | omega | simp_all <;> omega) ?_
 conv => whnf
 refine ⟨fun h3 => ?_, fun h3 => ?_⟩
 ·replace h3 : (z != 0) = true := h3
  conv => whnf
  exact ak.int (by rw [xu h1, xu h2, Iq h3]; rfl)
 replace h3 : (z != 0) = false := h3
 conv => whnf
 refine .mk (by simp only [okI] at *; first | omega | simp_all <;> omega) ?_
 conv => whnf
 refine Fork.mk (fun _ => ?_) (fun q => absurd (q.symm.trans ((rfl : decide ((3 : Int) < ([x, y, z, w].length : Int)) = true))) Bool.false_ne_true)
 conv => whnf
 refine .mk (by simp only [Rw.rng] at *; first | omega | simp_all <;> omega) ?_
 conv => whnf
 refine ⟨fun h4 => ?_, fun h4 => ?_⟩
 ·replace h4 : (w != 0) = true := h4
  conv => whnf
  exact ak.int (by rw [xu h1, xu h2, xu h3]; rfl)
 conv => whnf
 refine .mk (by simp only [okI] at *; first | omega | simp_all <;> omega) ?_
 conv => whnf
 refine Fork.mk (fun q => absurd (q.symm.trans ((rfl : decide ((4 : Int) < ([x, y, z, w].length : Int)) = false))).symm Bool.false_ne_true) (fun _ => ?_)
 conv => whnf
 have h5 : w = 0 := by simpa using h4
 exact ak.int (by rw [xu h1, xu h2, xu h3, h5])
theorem S.Ci (a b : List (List Int)) (ha : a.length < 2^40) (hb : b.length < 2^40) (sa : ∀ i, (a.getD i []).length < 2^40) (sb : ∀ i, (b.getD i []).length < 2^40) : aj Tryz.prog 90 [.row 0 false (.kY a), .row 0 false (.kY b), .fn 91 []] (.int (yQ a b)) := by
 refine aj.of Bd.dX (by simp) rfl rfl ?_
 conv => whnf
 refine aG.same [0, 1, 2, 11, 12] (fun i : Nat => [(13, .int i)]) (fun i => i ≤ a.length ∧ i ≤ b.length ∧ yQ a b = yQ (a.drop i) (b.drop i)) (fun i => a.length - i) 0 rfl (by decide) rfl (fun _ => rfl) ⟨by omega, by omega, rfl⟩ ⟨⟨_, rfl, rfl⟩, trivial⟩ ?_
 conv => whnf
 refine ⟨rfl, ?_⟩
 rintro i ⟨hi, hj, he⟩
 conv => whnf
 refine ⟨fun h3 => ?_, fun h3 => ?_⟩
 ·have hi' : i < a.length := by simpa using h3
  conv => whnf
  refine .mk (by simp only [Rw.rng] at *; first | omega | simp_all <;> omega) ?_
  conv => whnf
  refine ⟨fun h4 => ?_, fun h4 => ?_⟩
  ·conv => whnf
   have hb' : b.length ≤ i := by simpa using h4
   refine ak.int ?_
   rw [he, Aw (.inr hb') hi hj, if_neg (by omega), if_pos (by omega)]
  ·have hb' : i < b.length := by simpa using h4
   conv => whnf
   refine .mk (by simp only [Rw.rng] at *; first | omega | simp_all <;> omega) ?_
   conv => whnf
   refine ah.pure (S.vF (a.getD i []) (b.getD i []) (sa i) (sb i)) rfl ?_
   rw [Ir hi' hb'] at he
   conv => whnf
   refine ⟨fun h5 => ?_, fun h5 => ?_⟩
   ·conv => whnf
    exact ak.int (by rw [he, Iq h5])
   ·conv => whnf
    refine .mk (by simp only [okI] at *; first | omega | simp_all <;> omega) ?_
    conv => whnf
    refine ⟨i + 1, ⟨by omega, by omega, by rw [he, xu h5]⟩, by omega, ⟨⟨_, rfl, rfl⟩, trivial⟩, ?_, rfl⟩
    repeat' (first | exact trivial | exact ⟨_, rfl, rfl⟩ | constructor)
 ·have hi' : a.length ≤ i := by simpa using h3
  conv => whnf
  refine ⟨fun h4 => ?_, fun h4 => ?_⟩
  ·conv => whnf
   refine ak.int ?_
   rw [he, Aw (.inl hi') hi hj, if_pos (by simpa using h4)]
  ·conv => whnf
   refine ak.int ?_
   have : b.length ≤ a.length := by simpa using h4
   rw [he, Aw (.inl hi') hi hj, if_neg (by omega), if_neg (by omega)]
theorem S.fM (k j : Clause) (hk : lT k) (hj : lT j) : aj Tryz.prog 46 [.dat (.clause k), .dat (.clause j)] (.int (UC k j)) := by
 have a1 := hk.each; have a2 := hk.values; have a3 := hk.some; have b1 := hj.each; have b2 := hj.values; have b3 := hj.some
 have a4 := hk.rows; have b4 := hj.rows
 refine aj.of Bd.fM (by simp) rfl rfl ?_
 conv => whnf
 refine ah.pure (S.cmp_Compare_int (k.each.length : Int) (j.each.length : Int)) rfl ?_
 conv => whnf
 refine ah.pure (S.Ci k.each j.each (by omega) (by omega) (fun i => by have := a4 i; omega) (fun i => by have := b4 i; omega)) rfl ?_
 conv => whnf
 refine ah.pure (S.vF k.values j.values (by omega) (by omega)) rfl ?_
 conv => whnf
 refine ah.pure (S.vF k.some j.some (by omega) (by omega)) rfl ?_
 conv => whnf
 refine ah.pure (S.YG _ _ _ _ true) rfl ?_
 conv => whnf
 exact ak.int rfl
theorem S.kG (k j : Clause) (hk : lT k) (hj : lT j) : aj Tryz.prog 42 [.dat (.clause k), .dat (.clause j)] (.int (UC k j)) := by
 have a1 := hk.each; have a2 := hk.values; have a3 := hk.some; have b1 := hj.each; have b2 := hj.values; have b3 := hj.some
 have a4 := hk.rows; have b4 := hj.rows
 refine aj.of Bd.kG (by simp) rfl rfl ?_
 conv => whnf
 refine ⟨fun h1 => ?_, fun h1 => ?_⟩
 ·conv => whnf
  have h1' : (k.each.length : Int) < j.each.length := by simpa using h1
  refine ak.int ?_
  rw [UC, JD, if_pos h1']; rfl
 have h1' : ¬ (k.each.length : Int) < j.each.length := by simpa using h1
 conv => whnf
 refine ⟨fun h2 => ?_, fun h2 => ?_⟩
 ·conv => whnf
  have h2' : (j.each.length : Int) < k.each.length := by simpa using h2
  refine ak.int ?_
  rw [UC, JD, if_neg h1', if_pos h2']; rfl
 have h2' : ¬ (j.each.length : Int) < k.each.length := by simpa using h2
 have hlen : k.each.length = j.each.length := by omega
 have hC : UC k j = Sz (yQ k.each j.each) (Sz (cmpL k.values j.values) (cmpL k.some j.some)) := by
  rw [UC, JD, if_neg h1', if_neg h2']; rfl
 rw [hC]
 conv => whnf
 refine aG.same [2, 3] (fun i : Nat => [(5, .int i)]) (fun i => i ≤ k.each.length ∧ yQ k.each j.each = yQ (k.each.drop i) (j.each.drop i)) (fun i => k.each.length - i) 0 rfl (by decide) rfl (fun _ => rfl) ⟨by omega, rfl⟩ ⟨⟨_, rfl, rfl⟩, trivial⟩ ?_
 conv => whnf
 refine ⟨rfl, ?_⟩
 rintro i ⟨hi, he⟩
 conv => whnf
 refine ⟨fun h3 => ?_, fun h3 => ?_⟩
 ·have hi' : i < k.each.length := by simpa using h3
  rw [Ir hi' (by omega)] at he
  have a5 := a4 i; have b5 := b4 i
  conv => whnf
  repeat (refine VC.mk (by simp only [Rw.rng] at *; first | omega | simp_all <;> omega) ?_; conv => whnf)
  refine ah.pure (S.pI (k.each.getD i []) (j.each.getD i []) (by omega) (by omega)) rfl ?_
  conv => whnf
  refine ⟨fun h5 => ?_, fun h5 => ?_⟩
  ·conv => whnf
   exact ak.int (by rw [he, Iq h5, Iq h5])
  ·conv => whnf
   refine .mk (by simp only [okI] at *; first | omega | simp_all <;> omega) ?_
   conv => whnf
   refine ⟨i + 1, ⟨by omega, by rw [he, xu h5]⟩, by omega, ⟨⟨_, rfl, rfl⟩, trivial⟩, ?_, rfl⟩
   repeat' (first | exact trivial | exact ⟨_, rfl, rfl⟩ | constructor)
 ·have hi' : i = k.each.length := by have : k.each.length ≤ i := (by simpa using h3); omega
  have hz : yQ k.each j.each = 0 := by
   rw [he, Aw (.inl (by omega)) hi (by omega), if_neg (by omega), if_neg (by omega)]
  rw [hz, xu (by decide)]
  conv => whnf
  refine ah.pure (S.pI k.values j.values (by omega) (by omega)) rfl ?_
  conv => whnf
  refine ⟨fun h4 => ?_, fun h4 => ?_⟩
  ·conv => whnf
   exact ak.int (by rw [Iq h4])
  conv => whnf
  refine ah.pure (S.pI k.some j.some (by omega) (by omega)) rfl ?_
  conv => whnf
  exact ak.int (by rw [xu h4])
end Go.Proofs.YtifbibbicplneaaGreatDoor
