/-
 A part of the proof. No condition.
-/
import Derived.Test.YtifbibbicplneaaGreatDoorIb
namespace Go.Proofs.YtifbibbicplneaaGreatDoor
open Go.Ab Go.Proofs
set_option maxRecDepth 100000
theorem ah.row {l : List Clause} {f : Bool} {es : List (Int × List Bool)} {e : Elem} {h : Hz} {i j n : Nat} {K : V → Hz → Prop} {KW : Nat → V → Hz → Prop} (hsm : SmallK l) (ht : JA l e) (hg : nG e.counts.length l es) (hi : h.get i = some (Gi l f j)) (hj : h.get j = some (EO es)) (hij : i ≠ j) (hn : h.get n = none) (hin : n ≠ i) (hjn : n ≠ j)
  (hK : ∀ es', nG e.counts.length l es' → K (.row 0 false (.bools (mJ l e))) ((j, some (EO es')) :: h)) : ah Tryz.prog false none 58 [.ptr i 0 0, .dat (.elem e)] h n K KW := by
 refine ah.aaD (ts := [.ptr 0 0 0, .dat (.elem e)]) (o0 := Gi l f 1) (WA := Gi l f j) (o1 := EO es) (post := fun t hp => ∃ es', nG e.counts.length l es' ∧ t = (V.row 0 false (.bools (mJ l e))).aH ∧ hp = Hz.au (hT l f es')) (S.Un l f es e hsm ht hg) ?_ rfl rfl rfl ?_ hi hj hij hn hin hjn ?_
 ·rfl
 ·rfl
 ·rintro t hp ⟨es', hg', rfl, rfl⟩
  exact ⟨.row 0 false (.bools (mJ l e)), EO es', rfl, rfl, rfl, rfl, hK es' hg'⟩
theorem Us {n : Nat} : ∀ {h : Hz}, (h.all fun p => Nat.blt p.1 n) = true → ∀ m, n ≤ m → h.get m = none := by
 intro h
 induction h with
 | nil => intro _ m _; rfl
 | cons p r ih =>
  obtain ⟨j, o⟩ := p
  intro q m hm
  simp only [List.all_cons, Bool.and_eq_true, Nat.blt_eq] at q
  simp only [Hz.get]
  have : Nat.beq j m = false := by
   cases hb : Nat.beq j m with
   | false => rfl
   | true => have := Nat.eq_of_beq_eq_true hb; omega
  rw [this]; exact ih q.2 m hm
theorem ah.Ij {l : List Clause} {f : Bool} {h : Hz} {n : Nat} {K : V → Hz → Prop} {KW : Nat → V → Hz → Prop} (hsm : SmallK l) (hn : (h.all fun p => Nat.blt p.1 n) = true) (hK : KW 1 (.ptr n 0 0) ((n, some (Gi l f (n + 1))) :: (n + 1, some (EO [])) :: h)) : ah Tryz.prog false none 55 [.row 4 f (.clauses l)] h n K KW :=
 ah.new2 (_v := .ptr 0 0 0) (S.jG l f hsm) rfl rfl (by rfl) ⟨⟨trivial, trivial, by show (1 : Nat) < 2; decide, trivial⟩, trivial⟩ (Us hn) hK
theorem ah.Yz {P : Program} {dr : Bool} {f : FuncId} {args : List V} {h : Hz} {n : Nat} {K : V → Hz → Prop} {KW : Nat → V → Hz → Prop} (v : V) (hf : v.free = true) (hK : K v h) : ah P dr (some false) f args h n K KW := ⟨.inl (.inl ⟨v, (fun e => by cases e), hf, hK⟩)⟩
theorem ah.on {P : Program} {f : FuncId} {args : List V} {h : Hz} {n : Nat} {K : V → Hz → Prop} {KW' : Nat → V → Hz → Prop} (H : ah P false none f args h n K fun _ _ _ => False) : ah P false (some true) f args h n K KW' := by
 rcases H.ok with H | ⟨_, _, k, ⟨_, _, _, _, _, _, hk⟩, _⟩ | ⟨_, e, _⟩
 ·exact ⟨.inl (.inr ⟨rfl, fun _ => aT.mono H fun t hp ⟨v, h', a, b, _, c⟩ => ⟨v, h', a, b, c⟩, fun e => by cases e⟩)⟩
 ·exact hk.elim
 ·cases e
theorem KA (n : Nat) : ∃ r : Rw, (bif isZero (.int n) then some Rw.nil else VU (n : Int).toNat (T.bool false)) = some r ∧ r.aY = (Rw.bools (List.replicate n false)).aY := by
 cases n with
 | zero => exact ⟨.nil, rfl, rfl⟩
 | succ k => exact ⟨.bools (List.replicate (k + 1) false), rfl, rfl⟩
theorem ES : bC [ru zE] [T.agg [.int 0, .sl 0 true []]] := fun Z h => by
 show T.dH Z h [.agg [.int 0, .sl 0 false []]] [.agg [.int 0, .sl 0 true []]]
 simp [T.sub, T.dH]
theorem ak.zeroE {k : Int} {h : Hz} : ak (.fQ [.int k, .dat (.elem zE)]) (.fQ [.int k, .agg [.int 0, .row 0 true .nil]]) h := ⟨by
 show T.sub _ _ (.fQ [.int k, .agg [.int 0, .sl 0 false []]]) (.fQ [.int k, .agg [.int 0, .sl 0 true []]])
 simp [T.sub, T.dH]⟩
theorem Ik {l : List Clause} {x : Elem} : ER (mJ l x) = bif decide (fD l x < l.length) then ((fD l x : Nat) : Int) else -1 := by
 rw [ER, Ub, uD]
theorem step_cond {F n s : Nat} {t : Bool} {f : Int} (hf : f = bif decide (F < n) then (F : Int) else -1) : (decide (0 ≤ f) && (decide (f < (s : Int)) || (f == (s : Int) && t))) = (decide (F < n) && (decide (F < s) || F == s && t)) := by
 subst hf
 cases h : decide (F < n) with
 | false => rfl
 | true =>
  simp only [cond_true]
  rw [show decide (0 ≤ (F : Int)) = true from decide_eq_true (by omega), show decide ((F : Int) < s) = decide (F < s) from decide_eq_decide.2 ⟨fun h => by omega, fun h => by omega⟩]
  rw [show ((F : Int) == (s : Int)) = (F == s) from by
   rw [Bool.eq_iff_iff, beq_iff_eq, beq_iff_eq]; exact ⟨fun h => by omega, fun h => by omega⟩]
theorem Ut {fire : Elem → Option Elem} {l a : List Clause} {s : Nat × Elem} {e : Elem} {n : Nat} (h : s.2.counts.length ≤ n) (he : e.counts.length ≤ n) : (stepG fire l a s e).2.counts.length ≤ n := by
 unfold stepG
 split
 ·exact h
 ·cases (gy l e && gy a e && (decide (fD l _ < l.length) && (decide (fD l _ < s.1) || fD l _ == s.1 && decide (iO e < iO s.2)))) with
  | false => exact h
  | true => exact he
theorem Uu {fire : Elem → Option Elem} {l a : List Clause} {n : Nat} : ∀ {es : List Elem} {s : Nat × Elem}, s.2.counts.length ≤ n → (∀ e ∈ es, e.counts.length ≤ n) → (es.foldl (stepG fire l a) s).2.counts.length ≤ n := by
 intro es
 induction es with
 | nil => intro s h _; exact h
 | cons e es ih => intro s h he; exact ih (Ut h (he e (by simp))) fun x hx => he x (List.mem_cons_of_mem _ hx)
set_option maxHeartbeats 2000000 in
theorem S.gZ (p : aS) (r : Rule) (l a : List Clause) (n vals : Nat) (f g : Bool) (hp : bg p) (hr : wJ r) (hn : p.states.length = n) (hn0 : 0 < n) (ED : n ≤ 6) (hvs : max 1 p.values.length = vals) (rC : vals ≤ 3) (hF : ZM n p r) (hl : jZ n p.values.length l) (ha : jZ n p.values.length a) (hs : l.length + a.length ≤ 1000) (rk : Nat) (hrk : bU (l ++ a) = rk) :
  aj Tryz.prog 63 [.dat (.bT p), .dat (.rule r), .row 4 f (.clauses l), .row 4 g (.clauses a)] (.fQ [.int (orM l.length (Ku (dI r) l a (eU (rk + 3) n vals)).1), .dat (.elem (bif (Ku (dI r) l a (eU (rk + 3) n vals)).1 == l.length then zE else (Ku (dI r) l a (eU (rk + 3) n vals)).2))]) := by
 have hla := hl.app ha hs
 have hsm := hla.small ED (by omega)
 have YA : bU (l ++ a) ≤ 3 := rO fun k hk => (hla.cl k hk).two
 have hsl := hl.len; have hsa := ha.len
 have hlen : (l ++ a).length = l.length + a.length := List.length_append
 have hU : aj Tryz.prog 70 [.dat (.bT p), .int (bU (l ++ a) + 2)] (.row 3 false (.elems (eU (rk + 3) n vals))) := by
  have := S.eG p n vals (rk + 2) hp hn hn0 ED hvs rC (by omega)
  rw [hrk]; exact this
 have JC : (eU (rk + 3) n vals).length ≤ 3 * 531441 := by
  rw [oL]
  have := og (b := rk + 3) (n := n) (by omega) ED
  exact Nat.mul_le_mul rC (by omega)
 have hok := x9 (b := rk + 3) (n := n) (vals := vals) (by omega)
 have Sj : rk + 3 ≤ 9 := by omega
 generalize eU (rk + 3) n vals = es at hU JC hok ⊢
 have hblt : Nat.blt (EP r.kind) 4096 = true := by
  rcases hF.kind with h | h | h <;> rw [EP, h] <;> rfl
 have hst : ∀ i, (((es.take i).foldl (stepG (dI r) l a) (l.length, zE)).1) ≤ l.length := fun i => NV (fire := dI r) (l := l) (a := a) (es := es.take i)
 have hnx : ∀ {i : Nat}, i < es.length → (es.take (i + 1)).foldl (stepG (dI r) l a) (l.length, zE) = stepG (dI r) l a ((es.take i).foldl (stepG (dI r) l a) (l.length, zE)) (es.getD i default) := fun hi => BX hi
 have hend : Ku (dI r) l a es = (es.take es.length).foldl (stepG (dI r) l a) (l.length, zE) := by rw [List.take_length]; rfl
 rw [hend]
 refine aj.of Bd.gZ (by simp) rfl rfl ?_
 conv => whnf
 refine ah.pure (S.jr l a f g (by omega) (by omega)) rfl ?_
 conv => whnf
 conv => whnf
 refine ah.Ij hsm rfl ?_
 conv => whnf
 obtain ⟨rb, hrb, hrL⟩ := KA (l ++ a).length
 rw [hrb]
 conv => whnf
 refine .mk (by omega) ?_
 conv => whnf
 refine ah.pure (S.lD r.kind) rfl ?_
 conv => whnf
 refine .mk (by simp only [okI] at *; omega) ?_
 conv => whnf
 conv => whnf
 refine ah.pure (hU) rfl ?_
 conv => whnf
 refine aG.Ie (ι := Nat × List (Int × List Bool)) 100 [2, 5, 9, 10, 11, 12, 14, 41, 42] (fun x => [(43, .int x.1), (13, .int (((es.take x.1).foldl (stepG (dI r) l a) (l.length, zE)).1 : Nat))]) (fun x => [(1, .box 107 19 (.dat (.rule r))), (3, .box 41 3 (.agg [.int 0, .row 0 true .nil])), (7, Gi (l ++ a) false 8), (8, EO x.2), (15, rowB (List.replicate (l ++ a).length false)), (24, .box 41 3 (.dat (.elem ((es.take x.1).foldl (stepG (dI r) l a) (l.length, zE)).2)))]) (fun x => x.1 ≤ es.length ∧ nG n (l ++ a) x.2) (fun x => es.length - x.1) (0, []) [1, 3, 7, 8, 15, 24] rfl (by decide) (fun _ => rfl) ⟨Nat.zero_le _, nG.nil⟩ ?_ ?_ ?_
 ·exact ⟨⟨_, rfl, .eq rfl⟩, ⟨_, rfl, .eq rfl⟩, trivial⟩
 ·refine ⟨okF rfl nofun rfl rfl rfl ⟨rfl, rfl⟩ rfl, okF rfl nofun rfl rfl rfl ⟨rfl, rfl⟩ rfl, ⟨rfl, nofun, rfl, rfl, _, rfl, rfl, rfl, bC.of_eq rfl⟩, okF rfl nofun rfl rfl rfl ⟨rfl, rfl⟩ rfl, okF rfl nofun rfl rfl rfl ⟨rfl, rfl⟩ ?_, ?_, trivial⟩
  ·show (Rw.bools (List.replicate (l ++ a).length false)).aY ++ [] = rb.aY ++ []
   rw [hrL]
  ·exact ⟨rfl, nofun, rfl, rfl, _, rfl, rfl, rfl, ES⟩
 conv => whnf
 refine ⟨⟨⟨_, rfl, .eq rfl⟩, ⟨_, rfl, .eq rfl⟩, ⟨_, rfl, .eq rfl⟩, ⟨_, rfl, .eq rfl⟩, ⟨_, rfl, .eq rfl⟩, ⟨_, rfl, .eq rfl⟩, ⟨_, rfl, .eq rfl⟩, ⟨_, rfl, .eq rfl⟩, ⟨_, rfl, .eq rfl⟩, trivial⟩, rfl, ?_⟩
 rintro ⟨i, em⟩ ⟨hi, hem⟩
 conv => whnf
 refine ⟨fun h3 => ?_, fun h3 => ?_⟩
 ·have hi' : i < es.length := by simpa using h3
  have hue := hok _ (getM (d := default) hi')
  have hnext := hnx hi'
  have adH := hst i
  conv => whnf
  refine .mk (by simp only [Rw.rng] at *; omega) ?_
  conv => whnf
  rw [hblt]
  obtain ⟨x, hS, hx⟩ := S.apply r (es.getD i default) hr (by rw [hue.len]; exact hF.place) (hue.zl Sj) (by rw [hue.len]; exact ED) hF.kind
  conv => whnf
  refine ah.pure hS rfl ?_
  cases hO : dI r (es.getD i default) with
  | none =>
   have hsg : (es.take (i + 1)).foldl (stepG (dI r) l a) (l.length, zE) = (es.take i).foldl (stepG (dI r) l a) (l.length, zE) := by rw [hnext, stepG, hO]
   conv => whnf
   refine .mk (by exact fun h => ⟨h, h⟩) ?_
   conv => whnf
   refine ah.Yz (.row 0 false (.bools [])) rfl ?_
   conv => whnf
   refine .mk (by exact fun h => ⟨h, h⟩) ?_
   conv => whnf
   refine ah.Yz (.bool true) rfl ?_
   conv => whnf
   repeat (refine VC.mk (by first | exact id | (intro h; rw [h]; rfl)) ?_; conv => whnf)
   refine Fork.mk (fun _ => ?_) (fun q => absurd (q.symm.trans ((rfl : true = true))) Bool.false_ne_true)
   conv => whnf
   refine .mk (by simp only [okI] at *; omega) ?_
   conv => whnf
   refine ⟨(i + 1, em), [1, 3, 7, 8, 15, 24], ⟨by show i + 1 ≤ _; omega, hem⟩, by show es.length - (i + 1) < es.length - i; omega, ⟨⟨_, rfl, .eq rfl⟩, ⟨_, rfl, .eq ?_⟩, trivial⟩, ⟨⟨_, rfl, .eq rfl⟩, ⟨_, rfl, .eq rfl⟩, ⟨_, rfl, .eq rfl⟩, ⟨_, rfl, .eq rfl⟩, ⟨_, rfl, .eq rfl⟩, ⟨_, rfl, .eq rfl⟩, ⟨_, rfl, .eq rfl⟩, ⟨_, rfl, .eq rfl⟩, ⟨_, rfl, .eq rfl⟩, trivial⟩, okF rfl nofun rfl rfl rfl ⟨rfl, rfl⟩ rfl, okF rfl nofun rfl rfl rfl ⟨rfl, rfl⟩ rfl, ⟨rfl, nofun, rfl, rfl, _, rfl, rfl, rfl, bC.of_eq rfl⟩, okF rfl nofun rfl rfl rfl ⟨rfl, rfl⟩ rfl, okF rfl nofun rfl rfl rfl ⟨rfl, rfl⟩ rfl, okF rfl nofun rfl rfl rfl ⟨rfl, rfl⟩ ?_, trivial⟩
   ·exact congrArg (fun s : Nat × Elem => T.int ((s.1 : Nat) : Int)) hsg
   ·exact congrArg (fun s : Nat × Elem => (OV.box 41 3 (.dat (.elem s.2))).aF.l) hsg
  | some y =>
   obtain rfl := hx y hO
   have hxl : x.counts.length = n := by rw [TQ hO, hue.len]
   have hxv : 0 ≤ x.value ∧ x.value ≤ 1048576 := by
    rw [Wy hO, DK]
    have h1 := hue.val
    cases hw : decide (r.write ≥ 0) with
    | false => show 0 ≤ (es.getD i default).value ∧ (es.getD i default).value ≤ 1048576; omega
    | true =>
     rcases hF.wr with h2 | h2
     ·obtain ⟨w1, w2⟩ := uq h2
      show 0 ≤ r.write ∧ r.write ≤ 1048576; omega
     ·rw [h2] at hw; exact absurd hw (by decide)
   have hte := hla.at hue Sj rC hn0 ED
   have htx := hla.tab hxl (Yy (hue.nn Sj) (by rw [hue.len]; exact ED) hO) hn0 ED hxv
   have y5 : (es.getD i default).counts.length = n := hue.len
   conv => whnf
   refine .mk (by exact fun h => ⟨h, h⟩) ?_
   conv => whnf
   refine ah.on (ah.row hsm hte (show nG (es.getD i default).counts.length (l ++ a) em by rw [y5]; exact hem) rfl rfl (by decide) rfl (by decide) (by decide) (fun WB zy => ?_))
   replace zy : nG (es.getD i default).counts.length (l ++ a) WB := zy
   rw [y5] at zy
   conv => whnf
   refine .mk (by exact fun h => ⟨h, h⟩) ?_
   conv => whnf
   refine ah.on (ah.lend (S.mQ (mJ (l ++ a) (es.getD i default)) (l ++ a).length false false (by rw [uD]; omega) (by rw [uD]; exact Nat.le_refl _)) ⟨aC _, Si trivial rfl, trivial⟩ rfl rfl ?_)
   rw [RY, Ua]
   conv => whnf
   repeat (refine VC.mk (by first | exact id | (intro h; rw [h]; rfl)) ?_; conv => whnf)
   refine ⟨fun h4 => ?_, fun h4 => ?_⟩
   ·have h4' : (gy l (es.getD i default) && gy a (es.getD i default)) = false := by
     have h5 : (!(gy l (es.getD i default) && gy a (es.getD i default))) = true := h4
     simpa only [Bool.not_eq_true'] using h5
    have hsg : (es.take (i + 1)).foldl (stepG (dI r) l a) (l.length, zE) = (es.take i).foldl (stepG (dI r) l a) (l.length, zE) := by rw [hnext, stepG, hO]; simp only; rw [h4']; rfl
    conv => whnf
    refine .mk (by simp only [okI] at *; omega) ?_
    conv => whnf
    refine ⟨(i + 1, WB), [1, 3, 7, 8, 15, 24], ⟨by show i + 1 ≤ _; omega, zy⟩, by show es.length - (i + 1) < es.length - i; omega, ⟨⟨_, rfl, .eq rfl⟩, ⟨_, rfl, .eq ?_⟩, trivial⟩, ⟨⟨_, rfl, .eq rfl⟩, ⟨_, rfl, .eq rfl⟩, ⟨_, rfl, .eq rfl⟩, ⟨_, rfl, .eq rfl⟩, ⟨_, rfl, .eq rfl⟩, ⟨_, rfl, .eq rfl⟩, ⟨_, rfl, .eq rfl⟩, ⟨_, rfl, .eq rfl⟩, ⟨_, rfl, .eq rfl⟩, trivial⟩, okF rfl nofun rfl rfl rfl ⟨rfl, rfl⟩ rfl, okF rfl nofun rfl rfl rfl ⟨rfl, rfl⟩ rfl, ⟨rfl, nofun, rfl, rfl, _, rfl, rfl, rfl, bC.of_eq rfl⟩, okF rfl nofun rfl rfl rfl ⟨rfl, rfl⟩ rfl, okF rfl nofun rfl rfl rfl ⟨rfl, rfl⟩ rfl, okF rfl nofun rfl rfl rfl ⟨rfl, rfl⟩ ?_, trivial⟩
    ·exact congrArg (fun s : Nat × Elem => T.int ((s.1 : Nat) : Int)) hsg
    ·exact congrArg (fun s : Nat × Elem => (OV.box 41 3 (.dat (.elem s.2))).aF.l) hsg
   have h4' : (gy l (es.getD i default) && gy a (es.getD i default)) = true := by
    have h5 : (!(gy l (es.getD i default) && gy a (es.getD i default))) = false := h4
    simpa only [Bool.not_eq_false'] using h5
   have hfi := Ik (l := l) (x := x)
   have hlen2 : ((es.take i).foldl (stepG (dI r) l a) (l.length, zE)).2.counts.length ≤ 6 := Uu (show (0 : Nat) ≤ 6 by decide) fun e he => by rw [(hok e (List.mem_of_mem_take he)).len]; exact ED
   conv => whnf
   refine ah.row hsm htx (show nG x.counts.length (l ++ a) WB by rw [hxl]; exact zy) rfl rfl (by decide) rfl (by decide) (by decide) (fun em2 WC => ?_)
   replace WC : nG x.counts.length (l ++ a) em2 := WC
   rw [hxl] at WC
   conv => whnf
   refine .mk (by show 0 ≤ (l.length : Int) ∧ (l.length : Int) ≤ (mJ (l ++ a) x).length; rw [uD]; omega) ?_
   conv => whnf
   refine ah.pure (S.Ii ((mJ (l ++ a) x).take l.length) false (by rw [NW, uD]; omega)) rfl ?_
   conv => whnf
   repeat (refine VC.mk (by first | exact id | exact fun h => ⟨h, h⟩) ?_; conv => whnf)
   rw [NW]
   conv => whnf
   refine ah.cO (fun _ => S.iJ (es.getD i default) (by rw [y5]; omega)) rfl ?_
   conv => whnf
   refine VC.mk id ?_
   conv => whnf
   refine ah.cO (fun _ => S.iJ ((es.take i).foldl (stepG (dI r) l a) (l.length, zE)).2 (by omega)) rfl ?_
   conv => whnf
   repeat (refine VC.mk (by first | exact id | exact fun h => ⟨h, h⟩ | (intro h; simp [h]; done) | (intro h; simp_all; done)) ?_; conv => whnf)
   generalize hS : (es.take i).foldl (stepG (dI r) l a) (l.length, zE) = s at *
   have hsc := step_cond (n := l.length) (s := s.1) (t := decide (iO (es.getD i default) < iO s.2)) hfi
   have Sl : stepG (dI r) l a s (es.getD i default) = bif decide (fD l x < l.length) && (decide (fD l x < s.1) || fD l x == s.1 && decide (iO (es.getD i default) < iO s.2)) then (fD l x, es.getD i default) else s := by
    rw [stepG, hO]; simp only; rw [h4', Bool.true_and]
   refine ⟨fun h5 => ?_, fun h5 => ?_⟩
   ·have h5' : (decide (fD l x < l.length) && (decide (fD l x < s.1) || fD l x == s.1 && decide (iO (es.getD i default) < iO s.2))) = true := hsc ▸ h5
    rw [h5'] at Sl
    rw [Sl] at hnext
    have hlt : decide (fD l x < l.length) = true := (Bool.and_eq_true .. ▸ h5').1
    rw [hlt] at hfi
    conv => whnf
    refine .mk (by simp only [okI] at *; omega) ?_
    conv => whnf
    refine ⟨(i + 1, em2), [1, 3, 7, 8, 15, 24], ⟨by show i + 1 ≤ _; omega, WC⟩, by show es.length - (i + 1) < es.length - i; omega, ⟨⟨_, rfl, .eq rfl⟩, ⟨_, rfl, .eq ?_⟩, trivial⟩, ⟨⟨_, rfl, .eq rfl⟩, ⟨_, rfl, .eq rfl⟩, ⟨_, rfl, .eq rfl⟩, ⟨_, rfl, .eq rfl⟩, ⟨_, rfl, .eq rfl⟩, ⟨_, rfl, .eq rfl⟩, ⟨_, rfl, .eq rfl⟩, ⟨_, rfl, .eq rfl⟩, ⟨_, rfl, .eq rfl⟩, trivial⟩, okF rfl nofun rfl rfl rfl ⟨rfl, rfl⟩ rfl, okF rfl nofun rfl rfl rfl ⟨rfl, rfl⟩ rfl, ⟨rfl, nofun, rfl, rfl, _, rfl, rfl, rfl, bC.of_eq rfl⟩, okF rfl nofun rfl rfl rfl ⟨rfl, rfl⟩ rfl, okF rfl nofun rfl rfl rfl ⟨rfl, rfl⟩ rfl, okF rfl nofun rfl rfl rfl ⟨rfl, rfl⟩ ?_, trivial⟩
    ·show T.int (((es.take (i + 1)).foldl (stepG (dI r) l a) (l.length, zE)).1 : Nat) = T.int (ER (mJ l x))
     rw [hnext, hfi]; rfl
    ·exact congrArg (fun s : Nat × Elem => (OV.box 41 3 (.dat (.elem s.2))).aF.l) hnext
   ·have h5' : (decide (fD l x < l.length) && (decide (fD l x < s.1) || fD l x == s.1 && decide (iO (es.getD i default) < iO s.2))) = false := hsc ▸ h5
    rw [h5'] at Sl
    rw [Sl] at hnext
    conv => whnf
    refine .mk (by simp only [okI] at *; omega) ?_
    conv => whnf
    refine ⟨(i + 1, em2), [1, 3, 7, 8, 15, 24], ⟨by show i + 1 ≤ _; omega, WC⟩, by show es.length - (i + 1) < es.length - i; omega, ⟨⟨_, rfl, .eq rfl⟩, ⟨_, rfl, .eq ?_⟩, trivial⟩, ⟨⟨_, rfl, .eq rfl⟩, ⟨_, rfl, .eq rfl⟩, ⟨_, rfl, .eq rfl⟩, ⟨_, rfl, .eq rfl⟩, ⟨_, rfl, .eq rfl⟩, ⟨_, rfl, .eq rfl⟩, ⟨_, rfl, .eq rfl⟩, ⟨_, rfl, .eq rfl⟩, ⟨_, rfl, .eq rfl⟩, trivial⟩, okF rfl nofun rfl rfl rfl ⟨rfl, rfl⟩ rfl, okF rfl nofun rfl rfl rfl ⟨rfl, rfl⟩ rfl, ⟨rfl, nofun, rfl, rfl, _, rfl, rfl, rfl, bC.of_eq rfl⟩, okF rfl nofun rfl rfl rfl ⟨rfl, rfl⟩ rfl, okF rfl nofun rfl rfl rfl ⟨rfl, rfl⟩ rfl, okF rfl nofun rfl rfl rfl ⟨rfl, rfl⟩ ?_, trivial⟩
    ·exact congrArg (fun s : Nat × Elem => T.int ((s.1 : Nat) : Int)) hnext
    ·exact congrArg (fun s : Nat × Elem => (OV.box 41 3 (.dat (.elem s.2))).aF.l) hnext
 ·have hi' : i = es.length := by have : es.length ≤ i := (by simpa using h3); omega
  subst hi'
  generalize (es.take es.length).foldl (stepG (dI r) l a) (l.length, zE) = s
  conv => whnf
  refine ⟨fun h4 => ?_, fun h4 => ?_⟩
  ·have h4' : (s.1 == l.length) = true := by
    have h5 : ((s.1 : Int) == (l.length : Int)) = true := h4
    rw [beq_iff_eq] at h5 ⊢; omega
   conv => whnf
   rw [orM, h4']
   exact ak.zeroE
  ·have h4' : (s.1 == l.length) = false := by
    have h5 : ((s.1 : Int) == (l.length : Int)) = false := h4
    rw [beq_eq_false_iff_ne] at h5 ⊢; omega
   conv => whnf
   rw [orM, h4']
   exact ak.eqv rfl
abbrev boxS (f : Bool) (st : List Int) : OV := .box 24 0 (.row 0 f (.ints st))
theorem Qw {st : List Int} {e : Elem} : (!(jg st e)) = (TM e.counts st || e.value != 0) := by
 rw [jg, Bool.not_and, Bool.not_not, bne]
theorem kZ.ofS {f : Bool} {st : List Int} {h0 h : Hz} {n : Nat} {v u : V} {post : T → Hp → Prop} (Z : Nat → Prop) (hz : ¬ Z 0) (h00 : (h0.au 0).isSome = true) (q0 : h.get 0 = some (boxS f st)) (hu : u.free = true) (hv : T.sub Z h.au u.aH v.aH) (hp : post u.aH (Hz.au [(0, some (boxS f st))])) : kZ h0 n post v h := by
 refine kZ.VB (h2 := [(0, some (boxS f st))]) (u := u) Z ⟨dR (Z := Z) q0 hz, trivial⟩ ?_ hu hv hp
 intro i o ho
 have hG := qH (show xk 1 [(0, some (boxS f st))] = true from rfl) i o.aF (aN ho)
 obtain rfl : i = 0 := by have := hG.1; omega
 exact ⟨h00, T.ay (fun j hj => by rw [show j = 0 by omega]; exact h00) _ hG.2.1, hG.2.2⟩
theorem S.FT (st : List Int) (f : Bool) (e : Elem) (hs : st.length < 2^30) (he : e.counts.length < 2^30) : aT Tryz.prog 99 (V.aY [.dat (.elem e), .ptr 0 0 0]) (Hz.au [(0, some (boxS f st))]) 1 (fun t hp => t = .bool (!(jg st e)) ∧ hp = Hz.au [(0, some (boxS f st))]) := by
 refine sV.of (nx := 1) (h0 := [(0, some (boxS f st))]) Bd.ny (by simp) ⟨_, _, rfl, rfl⟩ rfl rfl ?_
 rw [Qw]
 conv => whnf
 refine aG.same [1, 2, 7, 8] (fun i : Nat => [(9, .int i)]) (fun i => i ≤ e.counts.length ∧ (List.range i).any (fun i => decide (e.counts.getD i 0 > 0) && !(JZ st i)) = false) (fun i => e.counts.length - i) 0 rfl (by decide) rfl (fun _ => rfl) ⟨by omega, by simp⟩ ⟨⟨_, rfl, rfl⟩, trivial⟩ ?_
 conv => whnf
 refine ⟨rfl, ?_⟩
 rintro i ⟨hi, hall⟩
 conv => whnf
 refine ⟨fun h3 => ?_, fun h3 => ?_⟩
 ·have hi' : i < e.counts.length := by simpa using h3
  conv => whnf
  repeat (refine VC.mk (by first | exact fun h => ⟨h, h⟩ | (simp only [Rw.rng] at *; omega)) ?_; conv => whnf)
  refine ah.cO (fun _ => S.slices_Contains_int st i f (by omega)) rfl ?_
  conv => whnf
  repeat (refine VC.mk id ?_; conv => whnf)
  refine ⟨fun h4 => ?_, fun h4 => ?_⟩
  ·conv => whnf
   rw [show TM e.counts st = true from List.any_eq_true.2 ⟨i, List.mem_range.2 hi', h4⟩]
   exact kZ.ofS (u := .bool true) (fun _ => False) (fun q => q) rfl rfl rfl (aC _) ⟨rfl, rfl⟩
  ·conv => whnf
   refine .mk (by simp only [okI] at *; omega) ?_
   conv => whnf
   refine ⟨i + 1, ⟨by omega, ?_⟩, by omega, ⟨⟨_, rfl, rfl⟩, trivial⟩, ?_, rfl⟩
   ·rw [List.range_succ, List.any_append, hall]
    show (false || ((decide (e.counts.getD i 0 > 0) && !(JZ st i)) || false)) = false
    rw [show (decide (e.counts.getD i 0 > 0) && !(JZ st i)) = false from h4]; rfl
   ·repeat' (first | exact trivial | exact ⟨_, rfl, rfl⟩ | constructor)
 ·have hi' : i = e.counts.length := by have : e.counts.length ≤ i := (by simpa using h3); omega
  subst hi'
  rw [show TM e.counts st = false from hall]
  conv => whnf
  exact kZ.ofS (u := .bool (e.value != 0)) (fun _ => False) (fun q => q) rfl rfl rfl (aC _) ⟨rfl, rfl⟩
def Gm (st : List Int) : List Elem → Nat → Int
 | [], _ => -1
 | x :: r, i => bif !(jg st x) then (i : Int) else Gm st r (i + 1)
abbrev hD (f : Bool) (st : List Int) (es : List Elem) : Hz := [(0, some (boxS f st)), (1, some (oM es))]
theorem S.Uw (st : List Int) (f : Bool) (es : List Elem) (hs : st.length < 2^30) (hl : es.length < 2^30) (he : ∀ e ∈ es, e.counts.length < 2^30) (n : Nat) : aT Tryz.prog 142 (V.aY [.own 1, .fn 99 [.ptr 0 0 0]]) (Hz.au (hD f st es)) n (fun t hp => t = .int (Gm st es 0) ∧ hp = Hz.au (hD f st es)) := by
 refine sV.of (nx := 2) (h0 := hD f st es) Bd.dS (by simp) ⟨_, _, rfl, rfl⟩ rfl rfl ?_
 conv => whnf
 refine aG.objs 2 [0, 1, 6, 7] (fun i : Nat => [(8, .int i)]) (fun _ => [(0, boxS f st), (1, oM es)]) (fun i => i ≤ es.length ∧ Gm st es 0 = Gm st (es.drop i) i) (fun i => es.length - i) 0 [0, 1] rfl (by decide) (fun _ => rfl) ⟨by omega, by simp⟩ ?_ ?_ ?_
 ·exact ⟨⟨_, rfl, .eq rfl⟩, trivial⟩
 ·exact ⟨⟨rfl, (fun _ => rfl), rfl, rfl, rfl, _, rfl, rfl, rfl, bC.of_eq rfl⟩, ⟨rfl, (fun _ => rfl), rfl, rfl, rfl, _, rfl, rfl, rfl, bC.of_eq rfl⟩, trivial⟩
 conv => whnf
 refine ⟨⟨⟨_, rfl, .eq rfl⟩, ⟨_, rfl, .eq rfl⟩, ⟨_, rfl, .eq rfl⟩, ⟨_, rfl, .eq rfl⟩, trivial⟩, rfl, ?_⟩
 rintro i ⟨hi, hall⟩
 conv => whnf
 refine ⟨fun h3 => ?_, fun h3 => ?_⟩
 ·have hi' : i < es.length := by simpa using h3
  rw [aZ default hi'] at hall
  simp only [Gm] at hall
  conv => whnf
  repeat (refine VC.mk (by simp only [Rw.rng, Int.toNat_natCast]; omega) ?_; conv => whnf)
  refine ah.Ig (i := 0) (ts := [.dat (.elem (es.getD i default)), .ptr 0 0 0]) (S.FT st f (es.getD i default) hs (he _ (getM hi'))) (by rfl) (by rfl) (by rfl) (by rfl) (by rfl) (by rfl) ?_
  rintro t hp ⟨rfl, rfl⟩
  refine .inl ⟨.bool _, boxS f st, rfl, rfl, rfl, ?_⟩
  conv => whnf
  refine ⟨fun h4 => ?_, fun h4 => ?_⟩
  ·conv => whnf
   rw [h4] at hall
   exact kZ.same (nx := 2) rfl ⟨rfl, rfl, trivial⟩ rfl rfl ⟨by rw [hall]; rfl, rfl⟩
  ·conv => whnf
   refine .mk (by simp only [okI] at *; omega) ?_
   conv => whnf
   rw [h4] at hall
   exact ⟨i + 1, [0, 1], ⟨by omega, hall⟩, by omega, ⟨⟨_, rfl, .eq rfl⟩, trivial⟩, ⟨⟨_, rfl, .eq rfl⟩, ⟨_, rfl, .eq rfl⟩, ⟨_, rfl, .eq rfl⟩, ⟨_, rfl, .eq rfl⟩, trivial⟩, ⟨rfl, (fun _ => rfl), rfl, rfl, rfl, _, rfl, rfl, rfl, bC.of_eq rfl⟩, ⟨rfl, (fun _ => rfl), rfl, rfl, rfl, _, rfl, rfl, rfl, bC.of_eq rfl⟩, trivial⟩
 ·conv => whnf
  have hi' : es.length ≤ i := by simpa using h3
  rw [List.drop_eq_nil_of_le hi'] at hall
  exact kZ.same (nx := 2) rfl ⟨rfl, rfl, trivial⟩ rfl rfl ⟨by rw [hall]; rfl, rfl⟩
def dQ (st : List Int) (es : List Elem) : List Elem := es.filter (jg st)
theorem YB {st : List Int} : ∀ {es : List Elem} {i : Nat}, Gm st es i = -1 → dQ st es = es := by
 intro es
 induction es with
 | nil => intro i _; rfl
 | cons x r ih =>
  intro i h
  simp only [Gm] at h
  cases hb : jg st x with
  | false => rw [hb] at h; simp at h
  | true => rw [hb] at h; simp only [dQ, List.filter_cons, hb, if_true]; exact congrArg _ (ih h)
theorem WE {st : List Int} : ∀ {es : List Elem} {i : Nat}, Gm st es i ≠ -1 → ∃ k, Gm st es i = ((i + k : Nat) : Int) ∧ k < es.length ∧ dQ st (es.take k) = es.take k ∧ jg st (es.getD k default) = false := by
 intro es
 induction es with
 | nil => intro i h; exact absurd rfl h
 | cons x r ih =>
  intro i h
  simp only [Gm] at h ⊢
  cases hb : jg st x with
  | false => exact ⟨0, by simp, by simp, rfl, by simpa using hb⟩
  | true =>
   rw [hb] at h
   obtain ⟨k, h1, h2, h3, h4⟩ := ih h
   refine ⟨k + 1, by show Gm st r (i + 1) = _; rw [h1]; omega, by simpa using h2, ?_, by simpa using h4⟩
   simp only [dQ, List.take_succ_cons, List.filter_cons, hb, if_true]; exact congrArg _ h3
theorem ET {st : List Int} {es : List Elem} {j : Nat} (hj : j < es.length) : dQ st (es.take (j + 1)) = bif jg st (es.getD j default) then dQ st (es.take j) ++ [es.getD j default] else dQ st (es.take j) := by
 have e : es[j]?.toList = [es.getD j default] := by simp [hj]
 unfold dQ
 rw [List.take_add_one, List.filter_append, e]
 cases hb : jg st (es.getD j default) with
 | true => rw [List.filter_cons, hb]; rfl
 | false => rw [List.filter_cons, hb]; simp
theorem Il {st : List Int} {es : List Elem} {j : Nat} : (dQ st (es.take j)).length ≤ j := by
 have := List.length_filter_le (jg st) (es.take j)
 rw [List.length_take] at this
 unfold dQ; omega
def midD (st : List Int) (es : List Elem) (j : Nat) : List Elem := dQ st (es.take j) ++ es.drop (dQ st (es.take j)).length
theorem WG {st : List Int} {es : List Elem} {j : Nat} (hj : j ≤ es.length) : (midD st es j).length = es.length := by
 have := Il (st := st) (es := es) (j := j)
 simp [midD]; omega
theorem WH {st : List Int} {es : List Elem} {j k : Nat} (hk : j ≤ k) : (midD st es j).getD k default = es.getD k default := by
 have := Il (st := st) (es := es) (j := j)
 unfold midD
 rw [List.getD_eq_getElem?_getD, List.getElem?_append_right (by omega), List.getElem?_drop]
 rw [show (dQ st (es.take j)).length + (k - (dQ st (es.take j)).length) = k by omega]
 rw [← List.getD_eq_getElem?_getD]
theorem WI {st : List Int} {es : List Elem} {j : Nat} (hj : j < es.length) (hb : jg st (es.getD j default) = true) : (midD st es j).set (dQ st (es.take j)).length (es.getD j default) = midD st es (j + 1) := by
 have h1 := Il (st := st) (es := es) (j := j)
 have h2 := ET (st := st) hj
 rw [hb] at h2
 have h2' : dQ st (es.take (j + 1)) = dQ st (es.take j) ++ [es.getD j default] := h2
 unfold midD
 rw [h2', aZ default (show (dQ st (es.take j)).length < es.length by omega), Ui rfl]
 simp
theorem ah.drop2 {P : Program} {f : FuncId} {ts args : List V} {h : Hz} {i j n : Nat} {o0 o1 : OV} {K : V → Hz → Prop} {KW : Nat → V → Hz → Prop} {post : T → Hp → Prop} (H : aT P f (V.aY ts) (Hz.au [(0, some o0), (1, some o1)]) 2 post)
  (ha : T.cZ (fun a => bif Nat.beq a 0 then i else j) (V.aY ts) = V.aY args) (hid : T.Ux 2 (V.aY ts) = true) (hg : xk 2 [(0, some o0), (1, some o1)] = true) (hf0 : o0.LD = true) (hf : o1.LD = true)
  (hi : h.get i = some o0) (hj : h.get j = some o1) (hij : i ≠ j) (hn : h.get n = none) (hin : n ≠ i) (hjn : n ≠ j)
  (hK : ∀ t hp, post t hp → ∃ v, hp = Hz.au [(0, some o0)] ∧ t = v.aH ∧ v.free = true ∧ K v ((j, none) :: h)) : ah P false none f args h n K KW := by
 have hG := qH hg
 have hlt : ∀ a : Nat, a < 2 → (Hz.au [(0, some o0), (1, some o1)] a).isSome = true := fun a ha => by
  rw [dK, tY]; by_cases e : a = 0
  ·rw [if_pos e]; rfl
  ·rw [if_neg e, if_pos (by omega)]; rfl
 have hsome : ∀ a, (Hz.au [(0, some o0), (1, some o1)] a).isSome = true → a = 0 ∨ a = 1 := fun a ha => by
  rw [dK, tY] at ha; split at ha
  ·left; assumption
  ·split at ha
   ·right; assumption
   ·cases ha
 let ρ : Nat → Nat := fun a => bif Nat.beq a 0 then i else j
 have WJ : ∀ a b, (Hz.au [(0, some o0), (1, some o1)] a).isSome = true → (Hz.au [(0, some o0), (1, some o1)] b).isSome = true → ρ a = ρ b → a = b := by
  intro a b ha hb e
  rcases hsome a ha with rfl | rfl <;> rcases hsome b hb with rfl | rfl
  ·rfl
  ·exact absurd e hij
  ·exact absurd e.symm hij
  ·rfl
 have inj : ∀ a b, ((Hz.au [(0, some o0), (1, some o1)] a).isSome = true ∨ a = 2) → ((Hz.au [(0, some o0), (1, some o1)] b).isSome = true ∨ b = 2) → nameAt ρ 2 n a = nameAt ρ 2 n b → a = b := by
  intro a b ha hb e
  rcases ha with ha | rfl
  ·rcases hb with hb | rfl
   ·rcases hsome a ha with rfl | rfl <;> rcases hsome b hb with rfl | rfl
    ·rfl
    ·exact absurd e hij
    ·exact absurd e.symm hij
    ·rfl
   ·rcases hsome a ha with rfl | rfl
    ·exact absurd e.symm hin
    ·exact absurd e.symm hjn
  ·rcases hb with hb | rfl
   ·rcases hsome b hb with rfl | rfl
    ·exact absurd e hin
    ·exact absurd e hjn
   ·rfl
 refine ah.heap (post := fun t' h' => ∃ t h1, post t h1 ∧ t' = t.ren (nameAt ρ 2 n) ∧ h' = placed ρ 2 n (Hz.au [(0, some o0), (1, some o1)]) h.au h1) ?_ ?_
 ·rw [← ha]
  refine aT.place H (T.ay hlt _ (DL hid)) (fun a ob hob => ?_) (by rw [dK, tY]; rfl) (fun a ob hob => ?_) WJ
  ·exact ⟨T.ay hlt _ (hG a ob hob).2.1, (hG a ob hob).2.2⟩
  ·have hs : (Hz.au [(0, some o0), (1, some o1)] a).isSome = true := by rw [hob]; rfl
   rcases hsome a hs with rfl | rfl
   ·rw [dK, if_pos rfl] at hob; cases hob
    show h.au i = _
    rw [aN hi, qJ hf0]
   ·rw [dK, tY, if_neg (by decide), if_pos rfl] at hob; cases hob
    show h.au j = _
    rw [aN hj, qJ hf]
 ·rintro t' h' ⟨t, h1, hp, rfl, rfl⟩
  obtain ⟨v, rfl, rfl, hvf, hk⟩ := hK t h1 hp
  refine ⟨v, _, FU (V.lZ v hvf) _, ?_, hk⟩
  funext a
  rw [dK]
  have at0 : placed ρ 2 n (Hz.au [(0, some o0), (1, some o1)]) h.au (Hz.au [(0, some o0)]) i = (Hz.au [(0, some o0)] 0).map (Ob.ren (nameAt ρ 2 n)) := pG (h := h.au) (h1 := Hz.au [(0, some o0)]) inj (i := 0) (.inl (hlt 0 (by decide)))
  have at1 : placed ρ 2 n (Hz.au [(0, some o0), (1, some o1)]) h.au (Hz.au [(0, some o0)]) j = (Hz.au [(0, some o0)] 1).map (Ob.ren (nameAt ρ 2 n)) := pG (h := h.au) (h1 := Hz.au [(0, some o0)]) inj (i := 1) (.inl (hlt 1 (by decide)))
  have at2 : placed ρ 2 n (Hz.au [(0, some o0), (1, some o1)]) h.au (Hz.au [(0, some o0)]) n = (Hz.au [(0, some o0)] 2).map (Ob.ren (nameAt ρ 2 n)) := pG (h := h.au) (h1 := Hz.au [(0, some o0)]) inj (i := 2) (.inr rfl)
  by_cases e1 : a = j
  ·subst e1; rw [if_pos rfl, at1, tY, if_neg (by decide)]; rfl
  ·rw [if_neg e1]
   by_cases e0 : a = i
   ·subst e0
    rw [at0, tY, if_pos rfl, aN hi, Option.map_some, qJ hf0]
   ·by_cases e2 : a = n
    ·subst e2; rw [at2, tY, if_neg (by decide)]; simp only [Hz.au, hn]; rfl
    ·exact Cc (by
      rintro ⟨b, hb, e⟩
      rcases hb with hb | rfl
      ·rcases hsome b hb with rfl | rfl
       ·exact e0 e.symm
       ·exact e1 e.symm
      ·exact e2 e.symm)
theorem aaE {h : Hz} {j k : Nat} {Z : Nat → Prop} {l : List Elem} {x : List V} (hz : Z j) (q : h.get j = some (.row 41 3 (.elems l) x)) (hk : k ≤ l.length) : T.sub Z h.au (V.row 3 false (.elems (l.take k))).aH (V.rW j 0 k).aH := by
 show T.sub Z h.au (.sl 3 false ((l.take k).map ru)) (.rW j 0 k)
 simp only [T.sub]
 refine ⟨trivial, hz, Cb _, by decide, 41, l.map ru ++ V.aY x, ?_, by simp; omega, ?_⟩
 ·rw [aN q]; rfl
 ·rw [List.drop_zero, List.take_append_of_le_length (by simp; omega), List.map_take]
set_option maxHeartbeats 1000000 in
theorem S.DeleteFunc (st : List Int) (f : Bool) (es : List Elem) (hs : st.length < 2^30) (hl : es.length < 2^30) (he : ∀ e ∈ es, e.counts.length < 2^30) (n : Nat) : aT Tryz.prog 98 (V.aY [.own 1, .fn 99 [.ptr 0 0 0]]) (Hz.au (hD f st es)) n (fun t hp => t = (V.row 3 false (.elems (dQ st es))).aH ∧ hp = Hz.au [(0, some (boxS f st))]) := by
 refine sV.of (nx := 2) (h0 := hD f st es) Bd.dO (by simp) ⟨_, _, rfl, rfl⟩ rfl rfl ?_
 conv => whnf
 refine ah.heap (S.Uw st f es hs hl he _) ?_
 rintro t hp ⟨rfl, rfl⟩
 refine ⟨.int _, hD f st es, rfl, rfl, ?_⟩
 conv => whnf
 refine ⟨fun h1 => ?_, fun h1 => ?_⟩
 ·have hno := YB (st := st) (es := es) (i := 0) (by simpa using h1)
  conv => whnf
  rw [hno]
  exact kZ.ofS (u := .row 3 false (.elems es)) (fun i => i = 1) (by decide) rfl rfl rfl (ZN rfl rfl) ⟨rfl, rfl⟩
 obtain ⟨k, hk1, hk2, hk3, hk4⟩ := WE (st := st) (es := es) (i := 0) (by
  have h2 : (Gm st es 0 == -1) = false := h1
  exact beq_eq_false_iff_ne.1 h2)
 rw [Nat.zero_add] at hk1
 rw [hk1]
 have hkn := ET (st := st) hk2
 rw [hk4] at hkn
 have hkn' : dQ st (es.take (k + 1)) = es.take k := hkn.trans hk3
 conv => whnf
 refine .mk (by simp only [okI]; omega) ?_
 conv => whnf
 have ab4 : midD st es (k + 1) = es := by
  unfold midD
  rw [hkn', List.length_take, Nat.min_eq_left (by omega), List.take_append_drop]
 refine aG.objs 2 [0, 1] (fun j : Nat => [(6, .int j), (5, .int (dQ st (es.take j)).length)]) (fun j => [(0, boxS f st), (1, oM (midD st es j))]) (fun j => k + 1 ≤ j ∧ j ≤ es.length ∧ (dQ st (es.take j)).length < j) (fun j => es.length - j) (k + 1) [0, 1] rfl (by decide) (fun _ => rfl) ⟨Nat.le_refl _, by omega, by rw [hkn', List.length_take]; omega⟩ ?_ ?_ ?_
 ·refine ⟨⟨_, rfl, .eq rfl⟩, ⟨_, rfl, .eq ?_⟩, trivial⟩
  show T.int ((dQ st (es.take (k + 1))).length : Nat) = T.int (k : Nat)
  rw [hkn', List.length_take, Nat.min_eq_left (by omega)]
 ·refine ⟨⟨rfl, (fun _ => rfl), rfl, rfl, rfl, _, rfl, rfl, rfl, bC.of_eq rfl⟩, ⟨rfl, (fun _ => rfl), rfl, rfl, rfl, _, rfl, rfl, rfl, bC.of_eq ?_⟩, trivial⟩
  rw [ab4]
 conv => whnf
 refine ⟨⟨⟨_, rfl, .eq rfl⟩, ⟨_, rfl, .eq rfl⟩, trivial⟩, rfl, ?_⟩
 rintro j ⟨hj0, hj, hsj⟩
 have hml := WG (st := st) hj
 conv => whnf
 refine ⟨fun h3 => ?_, fun h3 => ?_⟩
 ·have hj' : j < es.length := by
   have h4 : (j : Int) < ((midD st es j).length : Int) := of_decide_eq_true h3
   omega
  have hge := WH (st := st) (es := es) (j := j) (k := j) (Nat.le_refl _)
  have hst := WI (st := st) hj'
  have hsn := ET (st := st) hj'
  conv => whnf
  repeat (refine VC.mk (by simp only [Rw.rng, Int.toNat_natCast, hml]; omega) ?_; conv => whnf)
  refine ah.Ig (i := 0) (ts := [.dat (.elem ((midD st es j).getD j default)), .ptr 0 0 0]) (S.FT st f ((midD st es j).getD j default) hs (by rw [hge]; exact he _ (getM hj'))) (by rfl) (by rfl) (by rfl) (by rfl) (by rfl) (by rfl) ?_
  rintro t hp ⟨rfl, rfl⟩
  refine .inl ⟨.bool _, boxS f st, rfl, rfl, rfl, ?_⟩
  rw [hge]
  conv => whnf
  refine ⟨fun h4 => ?_, fun h4 => ?_⟩
  ·have h4' : jg st (es.getD j default) = true := by simpa using h4
   rw [h4'] at hsn
   have Uy : dQ st (es.take (j + 1)) = dQ st (es.take j) ++ [es.getD j default] := hsn
   conv => whnf
   repeat (refine VC.mk (by first | (simp only [Rw.rng, Int.toNat_natCast, hml]; omega) | (simp only [okI]; omega)) ?_; conv => whnf)
   refine ⟨j + 1, [0, 1], ⟨by omega, by omega, by rw [Uy, List.length_append]; simp only [List.length_cons, List.length_nil]; omega⟩, by omega, ⟨⟨_, rfl, .eq rfl⟩, ⟨_, rfl, .eq ?_⟩, trivial⟩, ⟨⟨_, rfl, .eq rfl⟩, ⟨_, rfl, .eq rfl⟩, trivial⟩, ⟨rfl, (fun _ => rfl), rfl, rfl, rfl, _, rfl, rfl, rfl, bC.of_eq rfl⟩, ⟨rfl, (fun _ => rfl), rfl, rfl, rfl, _, rfl, rfl, rfl, bC.of_eq ?_⟩, trivial⟩
   ·show T.int ((dQ st (es.take (j + 1))).length : Nat) = T.int (((dQ st (es.take j)).length : Int) + 1)
    rw [Uy, List.length_append]; rfl
   ·show (oM (midD st es (j + 1))).aF.l = (oM ((midD st es j).set (dQ st (es.take j)).length ((midD st es j).getD j default))).aF.l
    rw [hge, hst h4']
  ·have h4' : jg st (es.getD j default) = false := by simpa using h4
   rw [h4'] at hsn
   have Uy : dQ st (es.take (j + 1)) = dQ st (es.take j) := hsn
   conv => whnf
   refine .mk (by simp only [okI] at *; omega) ?_
   conv => whnf
   refine ⟨j + 1, [0, 1], ⟨by omega, by omega, by rw [Uy]; omega⟩, by omega, ⟨⟨_, rfl, .eq rfl⟩, ⟨_, rfl, .eq ?_⟩, trivial⟩, ⟨⟨_, rfl, .eq rfl⟩, ⟨_, rfl, .eq rfl⟩, trivial⟩, ⟨rfl, (fun _ => rfl), rfl, rfl, rfl, _, rfl, rfl, rfl, bC.of_eq rfl⟩, ⟨rfl, (fun _ => rfl), rfl, rfl, rfl, _, rfl, rfl, rfl, bC.of_eq ?_⟩, trivial⟩
   ·rw [Uy]; rfl
   ·unfold midD; rw [Uy]
 ·have hj' : j = es.length := by
   have h4 : ¬ (j : Int) < ((midD st es j).length : Int) := of_decide_eq_false h3
   omega
  subst hj'
  have hall : dQ st (es.take es.length) = dQ st es := by rw [List.take_length]
  have hle : (dQ st (es.take es.length)).length ≤ es.length := by omega
  conv => whnf
  repeat (refine VC.mk (by first | (simp only [Rw.mD, hml]; omega) | (refine ⟨?_, rfl⟩; show ((dQ st (es.take es.length)).length : Int).toNat ≤ (midD st es es.length).length; rw [hml, Int.toNat_natCast]; omega) | (show (0 : Int) ≤ ((dQ st (es.take es.length)).length : Int) ∧ ((dQ st (es.take es.length)).length : Int) ≤ (((midD st es es.length).take ((dQ st (es.take es.length)).length : Int).toNat).length : Int); rw [List.length_take, hml, Int.toNat_natCast]; omega) | (show _ ≤ (midD st es es.length).length ∧ (midD st es es.length).length = (midD st es es.length).length; rw [hml]; simp only [Int.toNat_natCast]; omega) | (show (0 : Int) ≤ _ ∧ _ ≤ (((midD st es es.length).take _).length : Int); rw [List.length_take, hml]; simp only [Int.toNat_natCast]; omega)) ?_; conv => whnf)
  have htk : (midD st es es.length).take (dQ st (es.take es.length)).length = dQ st es := by
   unfold midD; rw [List.take_left, hall]
  have ac8 : ((midD st es es.length).take (dQ st (es.take es.length)).length).take (dQ st (es.take es.length)).length = dQ st es := by
   rw [List.take_take, Nat.min_self, htk]
  refine kZ.ofS (u := .row 3 false (.elems (dQ st es))) (fun i => i = 1) (by decide) rfl rfl rfl ?_ ⟨rfl, rfl⟩
  rw [← ac8]
  exact aaE (k := (dQ st (es.take es.length)).length) rfl rfl (by rw [List.length_take, hml]; omega)
theorem ah.delete {st : List Int} {f : Bool} {es : List Elem} {h : Hz} {i j n : Nat} {K : V → Hz → Prop} {KW : Nat → V → Hz → Prop} (hs : st.length < 2^30) (hl : es.length < 2^30) (he : ∀ e ∈ es, e.counts.length < 2^30) (hi : h.get i = some (boxS f st)) (hj : h.get j = some (oM es)) (hij : i ≠ j) (hn : h.get n = none) (hin : n ≠ i) (hjn : n ≠ j) (hK : K (.row 3 false (.elems (dQ st es))) ((j, none) :: h)) : ah Tryz.prog false none 98 [.own j, .fn 99 [.ptr i 0 0]] h n K KW := by
 refine ah.drop2 (ts := [.own 1, .fn 99 [.ptr 0 0 0]]) (o0 := boxS f st) (o1 := oM es) (S.DeleteFunc st f es hs hl he 2) rfl rfl rfl rfl rfl hi hj hij hn hin hjn ?_
 rintro t hp ⟨rfl, rfl⟩
 exact ⟨.row 3 false (.elems (dQ st es)), rfl, rfl, rfl, hK⟩
theorem uF {p : aS} (h : uI p = 0) : BN p ∧ tX p = true := by
 unfold uI at h
 obtain ⟨h1, h2⟩ := bz (fun _ => by decide) h
 rw [h2] at h1
 refine ⟨aar h2, ?_⟩
 have hm : (eF p).monadic = true := by simpa using h1
 simp only [eF, Bool.and_eq_true] at hm
 exact hm.1
theorem zA {p : aS} {q : Prop'} (h : qE p q = 0) : jm p q = 0 ∧ uI p = 0 ∧ q.kind = 1 := by
 unfold qE at h
 obtain ⟨h1, h2⟩ := bz nz h
 have h3 := EJ h2 (by decide)
 rw [Bool.or_eq_false_iff] at h3
 exact ⟨by simpa using h1, by simpa using h3.1, by simpa using h3.2⟩
def Oa (l : List Clause) : Nat := (bU l).toNat
theorem Qx {l : List Clause} : bU l = Oa l := by have := yj (l := l); unfold Oa; omega
def iM (p : aS) : Nat := max 1 p.values.length
def EU (p : aS) (q : Prop') (l : List Clause) : List Elem := dQ (kT p q) (eU (Oa l + 3) p.states.length (iM p))
theorem S.jH (p : aS) (q : Prop') (m : Nat) (hp : bg p) (hq : iG q) (hv : jm p q = 0) (hF : BN p) (hm : m ≤ 8) : aj Tryz.prog 56 [.dat (.bT p), .dat (.prop q), .int m] (.row 3 false (.elems (dQ (kT p q) (eU (m + 1) p.states.length (iM p))))) := by
 have h1 := hF.pos; have h2 := hF.states; have h3 := hF.values
 have rC : iM p ≤ 3 := by unfold iM; omega
 have hb0 : 0 < m + 1 := by omega
 have hok := x9 (b := m + 1) (n := p.states.length) (vals := iM p) hb0
 have JC : (eU (m + 1) p.states.length (iM p)).length ≤ 3 * 531441 := by
  rw [oL]
  have := og (b := m + 1) (n := p.states.length) (by omega) h2
  exact Nat.mul_le_mul rC (by omega)
 refine aj.of Bd.jH (by simp) rfl rfl ?_
 conv => whnf
 refine ah.pure (S.mF p q hp hq hv) rfl ?_
 conv => whnf
 conv => whnf
 refine ah.mkRow (r := .elems (eU (m + 1) p.states.length (iM p))) (S.Uk p p.states.length (iM p) m hp rfl h1 h2 rfl rC hm) ?_
 conv => whnf
 refine ah.delete (f := false) (st := kT p q) (es := eU (m + 1) p.states.length (iM p)) (J7 hp hq) (by omega) (fun e he => by rw [(hok e he).len]; omega) (by rfl) (by rfl) (by decide) (by rfl) (by decide) (by decide) ?_
 conv => whnf
 exact ak.eqv rfl
def pW (p : aS) (q : Prop') (l : List Clause) : Int := bif qE p q != 0 then qE p q else ng p l
def EG (p : aS) (q : Prop') (l : List Clause) : V := .fQ [.int (bif pW p q l != 0 then 0 else orM l.length (yu l (EU p q l))), .int (pW p q l)]
set_option maxHeartbeats 1000000 in
theorem S.dV (p : aS) (q : Prop') (l : List Clause) (f : Bool) (hp : bg p) (hq : iG q) (hl : SmallK l) : aj Tryz.prog 17 [.dat (.bT p), .dat (.prop q), .row 4 f (.clauses l)] (EG p q l) := by
 refine aj.of Bd.dV (by simp) rfl rfl ?_
 conv => whnf
 refine ah.pure (S.iW p q hp hq) rfl ?_
 conv => whnf
 refine ⟨fun h1 => ?_, fun h1 => ?_⟩
 ·have he : pW p q l = qE p q := by rw [pW, show (qE p q != 0) = true from h1]; rfl
  conv => whnf
  exact ak.eqv (by rw [EG, he, show (qE p q != 0) = true from h1]; rfl)
 have he : pW p q l = ng p l := by rw [pW, show (qE p q != 0) = false from h1]; rfl
 conv => whnf
 refine ah.lend (S.wP p l false f hp hl) ⟨aC _, Oc trivial rfl rfl, trivial⟩ rfl rfl ?_
 conv => whnf
 refine ⟨fun h2 => ?_, fun h2 => ?_⟩
 ·conv => whnf
  exact ak.eqv (by rw [EG, he, show (ng p l != 0) = true from h2]; rfl)
 obtain ⟨hv, hin, _⟩ := zA (uZ h1)
 obtain ⟨hF, _⟩ := uF hin
 obtain ⟨hR, ab5⟩ := zx (uZ h2)
 have g1 := hF.pos; have g2 := hF.states; have g3 := hF.values
 have hrk := Qx (l := l)
 have YA : bU l ≤ 3 := rO fun k hk => (hR.cl k hk).two
 have hU : aj Tryz.prog 56 [.dat (.bT p), .dat (.prop q), .int (bU l + 2)] (.row 3 false (.elems (EU p q l))) := by
  have := S.jH p q (Oa l + 2) hp hq hv hF (by omega)
  rw [hrk]; exact this
 have hok : ∀ e ∈ EU p q l, H8 (Oa l + 3) p.states.length (iM p) e := fun e he => x9 (by omega) e (List.mem_filter.1 he).1
 have rC : iM p ≤ 3 := by unfold iM; omega
 have Sj : Oa l + 3 ≤ 9 := by omega
 have JC : (EU p q l).length ≤ 3 * 531441 := by
  refine Nat.le_trans (List.length_filter_le _ _) ?_
  rw [oL]
  have := og (b := Oa l + 3) (n := p.states.length) Sj g2
  exact Nat.mul_le_mul rC (by omega)
 have hV : EG p q l = .fQ [.int (orM l.length (yu l (EU p q l))), .int 0] := by
  rw [EG, he, show (ng p l != 0) = false from h2, uZ h2]; rfl
 rw [hV]
 generalize EU p q l = es at hU hok JC ⊢
 rw [← V4]
 conv => whnf
 refine ah.Ij hl rfl ?_
 conv => whnf
 refine .mk (by simp only [okI]; omega) ?_
 conv => whnf
 refine ah.pure (hU) rfl ?_
 conv => whnf
 refine aG.Ie (ι := Nat × List (Int × List Bool)) 100 [2, 10, 39, 40] (fun x => [(41, .int x.1), (11, .int (BU l (es.take x.1) : Nat))]) (fun x => [(18, Gi l f 19), (19, EO x.2)]) (fun x => x.1 ≤ es.length ∧ nG p.states.length l x.2) (fun x => es.length - x.1) (0, []) [18, 19] rfl (by decide) (fun _ => rfl) ⟨Nat.zero_le _, nG.nil⟩ ?_ ?_ ?_
 ·exact ⟨⟨_, rfl, .eq rfl⟩, ⟨_, rfl, .eq rfl⟩, trivial⟩
 ·exact ⟨⟨rfl, nofun, rfl, rfl, _, rfl, rfl, rfl, bC.of_eq rfl⟩, okF rfl nofun rfl rfl rfl ⟨rfl, rfl⟩ rfl, trivial⟩
 conv => whnf
 refine ⟨⟨⟨_, rfl, .eq rfl⟩, ⟨_, rfl, .eq rfl⟩, ⟨_, rfl, .eq rfl⟩, ⟨_, rfl, .eq rfl⟩, trivial⟩, rfl, ?_⟩
 rintro ⟨i, em⟩ ⟨hi, hem⟩
 conv => whnf
 refine ⟨fun h3 => ?_, fun h3 => ?_⟩
 ·have hi' : i < es.length := by simpa using h3
  have hue := hok _ (getM (d := default) hi')
  have hte := hR.at hue Sj rC g1 g2
  have y5 : (es.getD i default).counts.length = p.states.length := hue.len
  have hnx := TW (l := l) hi'
  have hfi := Ik (l := l) (x := es.getD i default)
  have hle : BU l (es.take i) ≤ l.length := by rw [V4]; exact V5
  have hk1 := hl.len
  conv => whnf
  refine .mk (by simp only [Rw.rng] at *; omega) ?_
  conv => whnf
  refine ah.row hl hte (show nG (es.getD i default).counts.length l em by rw [y5]; exact hem) rfl rfl (by decide) rfl (by decide) (by decide) (fun WB zy => ?_)
  replace zy : nG (es.getD i default).counts.length l WB := zy
  rw [y5] at zy
  conv => whnf
  refine ah.pure (S.Ii (mJ l (es.getD i default)) false (by rw [uD]; omega)) rfl ?_
  conv => whnf
  rw [hfi]
  cases hd : decide (fD l (es.getD i default) < l.length) with
  | true =>
   conv => whnf
   refine Fork.mk (fun _ => ?_) (fun q => absurd (q.symm.trans (decide_eq_true (show (0 : Int) ≤ ((fD l (es.getD i default) : Nat) : Int) by omega))) Bool.false_ne_true)
   conv => whnf
   refine .mk (by simp only [okI] at *; omega) ?_
   conv => whnf
   conv => whnf
   refine ⟨(i + 1, WB), [18, 19], ⟨by show i + 1 ≤ _; omega, zy⟩, by show es.length - (i + 1) < es.length - i; omega, ⟨⟨_, rfl, .eq rfl⟩, ⟨_, rfl, .eq ?_⟩, trivial⟩, ⟨⟨_, rfl, .eq rfl⟩, ⟨_, rfl, .eq rfl⟩, ⟨_, rfl, .eq rfl⟩, ⟨_, rfl, .eq rfl⟩, trivial⟩, ⟨rfl, nofun, rfl, rfl, _, rfl, rfl, rfl, bC.of_eq rfl⟩, okF rfl nofun rfl rfl rfl ⟨rfl, rfl⟩ rfl, trivial⟩
   show T.int (BU l (es.take (i + 1)) : Nat) = T.int (min (BU l (es.take i) : Int) (fD l (es.getD i default) : Nat))
   rw [hnx]; exact congrArg T.int (by omega)
  | false =>
   have hge := of_decide_eq_false hd
   conv => whnf
   refine Fork.mk (fun q => absurd (q.symm.trans ((rfl : false = false))).symm Bool.false_ne_true) (fun _ => ?_)
   conv => whnf
   refine .mk (by simp only [okI] at *; omega) ?_
   conv => whnf
   conv => whnf
   refine ⟨(i + 1, WB), [18, 19], ⟨by show i + 1 ≤ _; omega, zy⟩, by show es.length - (i + 1) < es.length - i; omega, ⟨⟨_, rfl, .eq rfl⟩, ⟨_, rfl, .eq ?_⟩, trivial⟩, ⟨⟨_, rfl, .eq rfl⟩, ⟨_, rfl, .eq rfl⟩, ⟨_, rfl, .eq rfl⟩, ⟨_, rfl, .eq rfl⟩, trivial⟩, ⟨rfl, nofun, rfl, rfl, _, rfl, rfl, rfl, bC.of_eq rfl⟩, okF rfl nofun rfl rfl rfl ⟨rfl, rfl⟩ rfl, trivial⟩
   show T.int (BU l (es.take (i + 1)) : Nat) = T.int (BU l (es.take i) : Nat)
   rw [hnx, Nat.min_eq_left (by omega)]
 ·have hi' : i = es.length := by have : es.length ≤ i := (by simpa using h3); omega
  subst hi'
  rw [List.take_length]
  conv => whnf
  refine ⟨fun h4 => ?_, fun h4 => ?_⟩
  ·have h4' : (BU l es == l.length) = true := by
    have h5 : ((BU l es : Int) == (l.length : Int)) = true := h4
    rw [beq_iff_eq] at h5 ⊢; omega
   conv => whnf
   rw [orM, h4']
   exact ak.eqv rfl
  ·have h4' : (BU l es == l.length) = false := by
    have h5 : ((BU l es : Int) == (l.length : Int)) = false := h4
    rw [beq_eq_false_iff_ne] at h5 ⊢; omega
   conv => whnf
   rw [orM, h4']
   exact ak.eqv rfl
def zB (st c : List Int) : Int := (st.map fun x => c.getD x.toNat 0).sum
def oW (q : Prop') (c : List Int) : Bool := q.bad.all fun k => decide (k.least ≤ zB k.states c)
structure WL (n : Nat) (q : Prop') : Prop where
 place : ∀ k ∈ q.bad, rG n k.states
 least : ∀ k ∈ q.bad, 1 ≤ k.least ∧ k.least ≤ 3
 some : ∀ k ∈ q.bad, k.states ≠ []
theorem KC {st c : List Int} {i : Nat} (hi : i < st.length) : zB (st.take (i + 1)) c = zB (st.take i) c + c.getD (st.getD i 0).toNat 0 := by
 unfold zB
 rw [List.take_add_one, List.map_append, List.sum_append]; simp [hi]
theorem Oe {st c : List Int} (h : JB 8 c) : 0 ≤ zB st c ∧ zB st c ≤ 8 * st.length := by
 unfold zB
 induction st with
 | nil => simp
 | cons x r ih =>
  have := h.g (by omega) x.toNat
  simp only [List.map_cons, List.sum_cons, List.length_cons]; omega
theorem getD_mem {α : Type} {l : List α} {i : Nat} {d : α} (hi : i < l.length) : l.getD i d ∈ l := by
 rw [show l.getD i d = l[i] by simp [hi]]; exact List.getElem_mem hi
theorem S.qK (q : Prop') (c : List Int) (f : Bool) (hq : iG q) (hb : WL c.length q) (hc : JB 8 c) (_hl : c.length < 2^30) : aj Tryz.prog 111 [.dat (.prop q), .row 0 f (.ints c)] (.bool (oW q c)) := by
 have q2 := hq.bad
 refine aj.of Bd.qK (by simp) rfl rfl ?_
 conv => whnf
 refine aG.same [1, 2] (fun i : Nat => [(5, .int i)]) (fun i => i ≤ q.bad.length ∧ (q.bad.take i).all (fun k => decide (k.least ≤ zB k.states c)) = true) (fun i => q.bad.length - i) 0 rfl (by decide) rfl (fun _ => rfl) ⟨by omega, by simp⟩ ⟨⟨_, rfl, rfl⟩, trivial⟩ ?_
 conv => whnf
 refine ⟨rfl, ?_⟩
 rintro i ⟨hi, hall⟩
 conv => whnf
 refine ⟨fun h3 => ?_, fun h3 => ?_⟩
 ·have hi' : i < q.bad.length := by simpa using h3
  have hk := getD_mem (d := default) hi'
  have hpl := hb.place _ hk
  have hsz := hq.cnt i
  conv => whnf
  refine aG.same [1, 2, 5] (fun j : Nat => [(7, .int j), (6, .int (zB ((q.bad.getD i default).states.take j) c))]) (fun j => j ≤ (q.bad.getD i default).states.length) (fun j => (q.bad.getD i default).states.length - j) 0 rfl (by decide) rfl (fun _ => rfl) (Nat.zero_le _) ⟨⟨_, rfl, rfl⟩, ⟨_, rfl, rfl⟩, trivial⟩ ?_
  conv => whnf
  refine ⟨rfl, ?_⟩
  rintro j hj
  have hs1 := Oe (st := (q.bad.getD i default).states.take j) hc
  have hl1 : ((q.bad.getD i default).states.take j).length ≤ (q.bad.getD i default).states.length := by rw [List.length_take]; omega
  conv => whnf
  refine .mk (by simp only [Rw.rng] at *; omega) ?_
  conv => whnf
  refine ⟨fun h4 => ?_, fun h4 => ?_⟩
  ·have hj' : j < (q.bad.getD i default).states.length := by simpa using h4
   have hst := KC (c := c) hj'
   have hg := hc.g (by omega) ((q.bad.getD i default).states.getD j 0).toNat
   obtain ⟨p1, p2⟩ := hpl _ (getD_mem (d := 0) hj')
   conv => whnf
   repeat (refine VC.mk (by first | (simp only [Rw.rng, Int.toNat_natCast]; omega) | (simp only [okI, Int.toNat_natCast] at *; omega)) ?_; conv => whnf)
   refine ⟨j + 1, by omega, by omega, ⟨⟨_, rfl, rfl⟩, ⟨_, rfl, ?_⟩, trivial⟩, ?_, rfl⟩
   ·rw [hst]; rfl
   ·repeat' (first | exact trivial | exact ⟨_, rfl, rfl⟩ | constructor)
  ·have hj' : (q.bad.getD i default).states.length ≤ j := by simpa using h4
   rw [List.take_of_length_le hj']
   conv => whnf
   refine .mk (by simp only [Rw.rng] at *; omega) ?_
   conv => whnf
   refine ⟨fun h5 => ?_, fun h5 => ?_⟩
   ·conv => whnf
    refine ak.bool ?_
    have : ¬ (q.bad.getD i default).least ≤ zB (q.bad.getD i default).states c := by
     simp only [Int.toNat_natCast] at h5
     have := of_decide_eq_true h5; omega
    exact kV (p := fun k => decide (k.least ≤ zB k.states c)) (d := default) hi' (decide_eq_false this)
   ·conv => whnf
    refine .mk (by simp only [okI] at *; omega) ?_
    conv => whnf
    have : (q.bad.getD i default).least ≤ zB (q.bad.getD i default).states c := by
     simp only [Int.toNat_natCast] at h5
     have := of_decide_eq_false h5; omega
    refine ⟨i + 1, ⟨by omega, ?_⟩, by omega, ⟨⟨_, rfl, rfl⟩, trivial⟩, ?_, rfl⟩
    ·rw [kC (d := default) hi' hall]; exact decide_eq_true this
    ·repeat' (first | exact trivial | exact ⟨_, rfl, rfl⟩ | constructor)
 ·have hi' : q.bad.length ≤ i := by simpa using h3
  rw [List.take_of_length_le hi'] at hall
  conv => whnf
  exact ak.bool hall
theorem S.oN (q : Prop') (e : Elem) (hq : iG q) (hb : WL e.counts.length q) (hc : JB 8 e.counts) (_hl : e.counts.length < 2^30) : aj Tryz.prog 109 [.dat (.prop q), .dat (.elem e)] (.bool (oW q e.counts)) := by
 have q2 := hq.bad
 refine aj.of Bd.oN (by simp) rfl rfl ?_
 conv => whnf
 refine aG.same [3, 11, 12] (fun i : Nat => [(13, .int i)]) (fun i => i ≤ q.bad.length ∧ (q.bad.take i).all (fun k => decide (k.least ≤ zB k.states e.counts)) = true) (fun i => q.bad.length - i) 0 rfl (by decide) rfl (fun _ => rfl) ⟨by omega, by simp⟩ ⟨⟨_, rfl, rfl⟩, trivial⟩ ?_
 conv => whnf
 refine ⟨rfl, ?_⟩
 rintro i ⟨hi, hall⟩
 conv => whnf
 refine ⟨fun h3 => ?_, fun h3 => ?_⟩
 ·have hi' : i < q.bad.length := by simpa using h3
  have hk := getD_mem (d := default) hi'
  have hpl := hb.place _ hk
  have hsz := hq.cnt i
  conv => whnf
  refine .mk (by simp only [Rw.rng] at *; omega) ?_
  conv => whnf
  refine aG.same [3, 6, 11, 12, 13, 18, 19] (fun j : Nat => [(20, .int j), (7, .int (zB ((q.bad.getD i default).states.take j) e.counts))]) (fun j => j ≤ (q.bad.getD i default).states.length) (fun j => (q.bad.getD i default).states.length - j) 0 rfl (by decide) rfl (fun _ => rfl) (Nat.zero_le _) ⟨⟨_, rfl, rfl⟩, ⟨_, rfl, rfl⟩, trivial⟩ ?_
  conv => whnf
  refine ⟨rfl, ?_⟩
  rintro j hj
  have hs1 := Oe (st := (q.bad.getD i default).states.take j) hc
  have hl1 : ((q.bad.getD i default).states.take j).length ≤ (q.bad.getD i default).states.length := by rw [List.length_take]; omega
  conv => whnf
  refine ⟨fun h4 => ?_, fun h4 => ?_⟩
  ·have hj' : j < (q.bad.getD i default).states.length := by simpa using h4
   have hst := KC (c := e.counts) hj'
   have hg := hc.g (by omega) ((q.bad.getD i default).states.getD j 0).toNat
   obtain ⟨p1, p2⟩ := hpl _ (getD_mem (d := 0) hj')
   conv => whnf
   repeat (refine VC.mk (by first | (simp only [Rw.rng, Int.toNat_natCast]; omega) | (simp only [okI, Int.toNat_natCast] at *; omega)) ?_; conv => whnf)
   refine ⟨j + 1, by omega, by omega, ⟨⟨_, rfl, rfl⟩, ⟨_, rfl, ?_⟩, trivial⟩, ?_, rfl⟩
   ·rw [hst]; rfl
   ·repeat' (first | exact trivial | exact ⟨_, rfl, rfl⟩ | constructor)
  ·have hj' : (q.bad.getD i default).states.length ≤ j := by simpa using h4
   rw [List.take_of_length_le hj']
   conv => whnf
   refine ⟨fun h5 => ?_, fun h5 => ?_⟩
   ·conv => whnf
    refine ak.bool ?_
    have : ¬ (q.bad.getD i default).least ≤ zB (q.bad.getD i default).states e.counts := by
     simp only [Int.toNat_natCast] at h5
     have := of_decide_eq_true h5; omega
    exact kV (p := fun k => decide (k.least ≤ zB k.states e.counts)) (d := default) hi' (decide_eq_false this)
   ·conv => whnf
    refine .mk (by simp only [okI] at *; omega) ?_
    conv => whnf
    have : (q.bad.getD i default).least ≤ zB (q.bad.getD i default).states e.counts := by
     simp only [Int.toNat_natCast] at h5
     have := of_decide_eq_false h5; omega
    refine ⟨i + 1, ⟨by omega, ?_⟩, by omega, ⟨⟨_, rfl, rfl⟩, trivial⟩, ?_, rfl⟩
    ·rw [kC (d := default) hi' hall]; exact decide_eq_true this
    ·repeat' (first | exact trivial | exact ⟨_, rfl, rfl⟩ | constructor)
 ·have hi' : q.bad.length ≤ i := by simpa using h3
  rw [List.take_of_length_le hi'] at hall
  conv => whnf
  exact ak.bool hall
theorem Io {p : aS} {q : Prop'} (hp : jm p q = 0) (hk : q.kind = 1) : WL p.states.length q := by
 unfold jm at hp
 obtain ⟨_, hp⟩ := bz nz hp
 obtain ⟨_, hp⟩ := bz (fun _ => by decide) hp
 obtain ⟨_, hp⟩ := bz (fun _ => by decide) hp
 obtain ⟨_, hp⟩ := bz (fun _ => by decide) hp
 obtain ⟨_, hp⟩ := bz nz hp
 obtain ⟨_, hp⟩ := bz (fun _ => by decide) hp
 rw [show (!(q.kind == 1)) = false by simp [hk]] at hp
 have hcn := jD hp (uw q.bad p.states.length) (by simp)
 have hall : ∀ k ∈ q.bad, Jv p.states.length k = 0 := fun k hk => jD hcn _ (List.mem_map.2 ⟨k, hk, rfl⟩)
 have hlb : ∀ k ∈ q.bad, oK k = false := fun k hk => EJ (jD (hall k hk) (cu (oK k) 1) (by simp)) (by decide)
 refine ⟨fun k hk => Aq (jD (hall k hk) (dJ k.states p.states.length) (by simp)), fun k hk => ?_, fun k hk e => ?_⟩
 ·have := hlb k hk
  simp only [oK, Bool.or_eq_false_iff, decide_eq_false_iff_not] at this; omega
 ·have := hlb k hk
  rw [oK, e] at this; simp at this
def ZQ (l : List Cnt) : Int := l.foldl (fun m k => max m k.least) 0
theorem YC {l : List Cnt} : ∀ {r : Int}, 0 ≤ r → l.foldl (fun m k => max m k.least) r = max r (ZQ l) := by
 have : ∀ (l : List Cnt) (r s : Int), l.foldl (fun m k => max m k.least) (max r s) = max r (l.foldl (fun m k => max m k.least) s) := by
  intro l
  induction l with
  | nil => intro r s; rfl
  | cons x l ih => intro r s; rw [List.foldl_cons, List.foldl_cons, Int.max_assoc, ih]
 intro r hr
 have := this l r 0
 rw [Int.max_eq_left hr] at this; exact this
theorem WM {l : List Cnt} (h : ∀ k ∈ l, 1 ≤ k.least ∧ k.least ≤ 3) : 0 ≤ ZQ l ∧ ZQ l ≤ 3 := by
 have : ∀ (l : List Cnt) (r : Int), 0 ≤ r ∧ r ≤ 3 → (∀ k ∈ l, 1 ≤ k.least ∧ k.least ≤ 3) → 0 ≤ l.foldl (fun m k => max m k.least) r ∧ l.foldl (fun m k => max m k.least) r ≤ 3 := by
  intro l
  induction l with
  | nil => intro r hr _; exact hr
  | cons x l ih => intro r hr h; have := h x (by simp); exact ih _ (show 0 ≤ max r x.least ∧ max r x.least ≤ 3 by omega) fun k hk => h k (List.mem_cons_of_mem _ hk)
 exact this l 0 (by omega) h
theorem Sm {l : List Cnt} {r : Int} {i : Nat} (hi : i < l.length) : (l.take (i + 1)).foldl (fun m k => max m k.least) r = max ((l.take i).foldl (fun m k => max m k.least) r) (l.getD i default).least := by
 rw [List.take_add_one, List.foldl_append]; simp [hi]
def KD (q : Prop') (l : List Clause) : Nat := (max (bU l) (ZQ q.bad)).toNat
theorem WO {q : Prop'} {l : List Clause} : max (bU l) (ZQ q.bad) = KD q l := by have := yj (l := l); unfold KD; omega
def Gf (p : aS) (q : Prop') (l : List Clause) : Option Elem := TY (fun e => oW q e.counts) l (eU (KD q l + 3) p.states.length (iM p))
def YD (s : Option Elem) : V := .fQ [.dat (.elem (s.getD zE)), .bool s.isSome]
theorem Hg {bad : Elem → Bool} {l : List Clause} {es : List Elem} {x : Elem} (h : es.foldl (sU bad l) none = some x) : x ∈ es := V7 h
set_option maxHeartbeats 2000000 in
theorem S.iC (p : aS) (q : Prop') (l : List Clause) (f : Bool) (hp : bg p) (hq : iG q) (hl : SmallK l) (hF : BN p) (hB : WL p.states.length q) (hR : jZ p.states.length p.values.length l) : aj Tryz.prog 67 [.dat (.bT p), .dat (.prop q), .row 4 f (.clauses l)] (YD (Gf p q l)) := by
 have g1 := hF.pos; have g2 := hF.states; have g3 := hF.values
 have q1 := hq.bad
 have hk1 := hl.len
 have rC : iM p ≤ 3 := by unfold iM; omega
 have YA : bU l ≤ 3 := rO fun k hk => (hR.cl k hk).two
 have ab6 := yj (l := l)
 have hlg := WM hB.least
 have hmd := WO (q := q) (l := l)
 have adI : KD q l ≤ 3 := by omega
 have Sj : KD q l + 3 ≤ 9 := by omega
 have hU : aj Tryz.prog 70 [.dat (.bT p), .int (max (bU l) (ZQ q.bad) + 2)] (.row 3 false (.elems (eU (KD q l + 3) p.states.length (iM p)))) := by
  have := S.eG p p.states.length (iM p) (KD q l + 2) hp rfl g1 g2 rfl rC (by omega)
  rw [hmd]; exact this
 have hok := x9 (b := KD q l + 3) (n := p.states.length) (vals := iM p) (by omega)
 have JC : (eU (KD q l + 3) p.states.length (iM p)).length ≤ 3 * 531441 := by
  rw [oL]
  have := og (b := KD q l + 3) (n := p.states.length) Sj g2
  exact Nat.mul_le_mul rC (by omega)
 have hend : Gf p q l = TY (fun e => oW q e.counts) l (eU (KD q l + 3) p.states.length (iM p)) := rfl
 rw [hend]
 generalize eU (KD q l + 3) p.states.length (iM p) = es at hU JC hok ⊢
 have hmem : ∀ i x, (es.take i).foldl (sU (fun e => oW q e.counts) l) none = some x → x.counts.length = p.states.length := fun i x h => (hok x (List.mem_of_mem_take (Hg h))).len
 have WQ : TY (fun e => oW q e.counts) l es = (es.take es.length).foldl (sU (fun e => oW q e.counts) l) none := by rw [List.take_length]; rfl
 rw [WQ]
 refine aj.of Bd.iC (by simp) rfl (by rfl) ?_
 conv => whnf
 refine ah.Ij hl rfl ?_
 conv => whnf
 obtain ⟨rb, hrb, hrL⟩ := KA l.length
 rw [hrb]
 conv => whnf
 refine .mk (by omega) ?_
 conv => whnf
 refine aG.Ie 50 [3, 4, 6, 8, 9, 26, 27] (fun i : Nat => [(28, .int i), (10, .int ((q.bad.take i).foldl (fun m k => max m k.least) (bU l)))]) (fun _ => [(0, .box 27 11 (.dat (.bT p))), (1, .box 30 7 (.dat (.prop q))), (2, .box 41 3 (.agg [.int 0, .row 0 true .nil])), (5, Gi l f 6), (6, EO []), (10, rowB (List.replicate l.length false))]) (fun i => i ≤ q.bad.length) (fun i => q.bad.length - i) 0 [0, 1, 2, 5, 6, 10] rfl (by decide) (fun _ => rfl) (Nat.zero_le _) ?_ ?_ ?_
 ·exact ⟨⟨_, rfl, .eq rfl⟩, ⟨_, rfl, .eq rfl⟩, trivial⟩
 ·refine ⟨okF rfl nofun rfl rfl rfl ⟨rfl, rfl⟩ rfl, okF rfl nofun rfl rfl rfl ⟨rfl, rfl⟩ rfl, okF rfl nofun rfl rfl rfl ⟨rfl, rfl⟩ rfl, ⟨rfl, nofun, rfl, rfl, _, rfl, rfl, rfl, bC.of_eq rfl⟩, okF rfl nofun rfl rfl rfl ⟨rfl, rfl⟩ rfl, okF rfl nofun rfl rfl rfl ⟨rfl, rfl⟩ ?_, trivial⟩
  show (Rw.bools (List.replicate l.length false)).aY ++ [] = rb.aY ++ []
  rw [hrL]
 conv => whnf
 refine ⟨⟨⟨_, rfl, .eq rfl⟩, ⟨_, rfl, .eq rfl⟩, ⟨_, rfl, .eq rfl⟩, ⟨_, rfl, .eq rfl⟩, ⟨_, rfl, .eq rfl⟩, ⟨_, rfl, .eq rfl⟩, ⟨_, rfl, .eq rfl⟩, trivial⟩, rfl, ?_⟩
 rintro i hi
 conv => whnf
 refine ⟨fun h3 => ?_, fun h3 => ?_⟩
 ·have hi' : i < q.bad.length := by simpa using h3
  have hlt := Sm (r := bU l) hi'
  conv => whnf
  repeat (refine VC.mk (by simp only [okI, Rw.rng] at *; omega) ?_; conv => whnf)
  refine ⟨i + 1, [0, 1, 2, 5, 6, 10], by omega, by omega, ⟨⟨_, rfl, .eq rfl⟩, ⟨_, rfl, .eq ?_⟩, trivial⟩, ⟨⟨_, rfl, .eq rfl⟩, ⟨_, rfl, .eq rfl⟩, ⟨_, rfl, .eq rfl⟩, ⟨_, rfl, .eq rfl⟩, ⟨_, rfl, .eq rfl⟩, ⟨_, rfl, .eq rfl⟩, ⟨_, rfl, .eq rfl⟩, trivial⟩, okF rfl nofun rfl rfl rfl ⟨rfl, rfl⟩ rfl, okF rfl nofun rfl rfl rfl ⟨rfl, rfl⟩ rfl, okF rfl nofun rfl rfl rfl ⟨rfl, rfl⟩ rfl, ⟨rfl, nofun, rfl, rfl, _, rfl, rfl, rfl, bC.of_eq rfl⟩, okF rfl nofun rfl rfl rfl ⟨rfl, rfl⟩ rfl, okF rfl nofun rfl rfl rfl ⟨rfl, rfl⟩ rfl, trivial⟩
  rw [hlt]; rfl
 have hi' : i = q.bad.length := by have : q.bad.length ≤ i := (by simpa using h3); omega
 subst hi'
 rw [show q.bad.take q.bad.length = q.bad from List.take_length, YC ab6]
 conv => whnf
 refine .mk (by simp only [okI]; omega) ?_
 conv => whnf
 refine ah.pure (hU) rfl ?_
 conv => whnf
 refine aG.Ie (ι := Nat × List (Int × List Bool)) 100 [4, 6, 8, 9, 13, 40, 41] (fun x => [(42, .int x.1)]) (fun x => [(1, .box 30 7 (.dat (.prop q))), (2, .box 41 3 (.agg [.int 0, .row 0 true .nil])), (5, Gi l f 6), (6, EO x.2), (10, rowB (List.replicate l.length false)), (51, .box 41 3 (.dat (.elem (((es.take x.1).foldl (sU (fun e => oW q e.counts) l) none).getD zE))))]) (fun x => x.1 ≤ es.length ∧ nG p.states.length l x.2) (fun x => es.length - x.1) (0, []) [1, 2, 5, 6, 10, 51] rfl (by decide) (fun _ => rfl) ⟨Nat.zero_le _, nG.nil⟩ ?_ ?_ ?_
 ·exact ⟨⟨_, rfl, .eq rfl⟩, trivial⟩
 ·exact ⟨okF rfl nofun rfl rfl rfl ⟨rfl, rfl⟩ rfl, okF rfl nofun rfl rfl rfl ⟨rfl, rfl⟩ rfl, ⟨rfl, nofun, rfl, rfl, _, rfl, rfl, rfl, bC.of_eq rfl⟩, okF rfl nofun rfl rfl rfl ⟨rfl, rfl⟩ rfl, okF rfl nofun rfl rfl rfl ⟨rfl, rfl⟩ rfl, ⟨rfl, nofun, rfl, rfl, _, rfl, rfl, rfl, ES⟩, trivial⟩
 conv => whnf
 refine ⟨⟨⟨_, rfl, .eq rfl⟩, ⟨_, rfl, .eq rfl⟩, ⟨_, rfl, .eq rfl⟩, ⟨_, rfl, .eq rfl⟩, ⟨_, rfl, .eq rfl⟩, ⟨_, rfl, .eq rfl⟩, ⟨_, rfl, .eq rfl⟩, trivial⟩, rfl, ?_⟩
 rintro ⟨i, em⟩ ⟨hi, hem⟩
 have Am := hmem i
 conv => whnf
 refine ⟨fun h3 => ?_, fun h3 => ?_⟩
 ·have hi' : i < es.length := by simpa using h3
  have hue := hok _ (getM (d := default) hi')
  have hte := hR.at hue Sj rC g1 g2
  have y5 : (es.getD i default).counts.length = p.states.length := hue.len
  have hnx : (es.take (i + 1)).foldl (sU (fun e => oW q e.counts) l) none = sU (fun e => oW q e.counts) l ((es.take i).foldl (sU (fun e => oW q e.counts) l) none) (es.getD i default) := BX hi'
  generalize (es.take i).foldl (sU (fun e => oW q e.counts) l) none = s at *
  have hsl : (s.getD zE).counts.length ≤ 6 := by
   cases s with
   | none => exact show (0 : Nat) ≤ 6 by decide
   | some x => have := Am x rfl; show x.counts.length ≤ 6; omega
  have hsn : (((s.getD zE).counts.length : Int) == 0) = s.isNone := by
   cases s with
   | none => rfl
   | some x =>
    have := Am x rfl
    show ((x.counts.length : Int) == 0) = false
    exact beq_eq_false_iff_ne.2 (by omega)
  conv => whnf
  refine .mk (by simp only [Rw.rng] at *; omega) ?_
  conv => whnf
  refine ah.pure (S.oN q (es.getD i default) hq (by rw [y5]; exact hB) (hue.nn Sj) (by rw [y5]; omega)) rfl ?_
  conv => whnf
  refine .mk (by exact fun h => ⟨h, h⟩) ?_
  conv => whnf
  cases hD : oW q (es.getD i default).counts with
  | false =>
   have hsg : sU (fun e => oW q e.counts) l s (es.getD i default) = s := by rw [sU, hD]; rfl
   rw [hsg] at hnx
   refine ah.Yz (.row 0 false (.bools [])) rfl ?_
   conv => whnf
   refine .mk (by exact fun h => ⟨h, h⟩) ?_
   conv => whnf
   refine ah.Yz (.bool true) rfl ?_
   conv => whnf
   repeat (refine VC.mk id ?_; conv => whnf)
   refine ah.cO (fun _ => S.iJ (es.getD i default) (by rw [y5]; omega)) rfl ?_
   conv => whnf
   refine VC.mk id ?_
   conv => whnf
   refine ah.cO (fun _ => S.iJ (s.getD zE) (by omega)) rfl ?_
   conv => whnf
   repeat (refine VC.mk (by first | exact id | exact fun h => ⟨h, h⟩ | (intro h; simp_all; done)) ?_; conv => whnf)
   refine Fork.mk (fun q => absurd (q.symm.trans ((rfl : false = false))).symm Bool.false_ne_true) (fun _ => ?_)
   conv => whnf
   refine .mk (by simp only [okI] at *; omega) ?_
   conv => whnf
   conv => whnf
   refine ⟨(i + 1, em), [1, 2, 5, 6, 10, 51], ⟨by show i + 1 ≤ _; omega, hem⟩, by show es.length - (i + 1) < es.length - i; omega, ⟨⟨_, rfl, .eq rfl⟩, trivial⟩, ⟨⟨_, rfl, .eq rfl⟩, ⟨_, rfl, .eq rfl⟩, ⟨_, rfl, .eq rfl⟩, ⟨_, rfl, .eq rfl⟩, ⟨_, rfl, .eq rfl⟩, ⟨_, rfl, .eq rfl⟩, ⟨_, rfl, .eq rfl⟩, trivial⟩, okF rfl nofun rfl rfl rfl ⟨rfl, rfl⟩ rfl, okF rfl nofun rfl rfl rfl ⟨rfl, rfl⟩ rfl, ⟨rfl, nofun, rfl, rfl, _, rfl, rfl, rfl, bC.of_eq rfl⟩, okF rfl nofun rfl rfl rfl ⟨rfl, rfl⟩ rfl, okF rfl nofun rfl rfl rfl ⟨rfl, rfl⟩ rfl, okF rfl nofun rfl rfl rfl ⟨rfl, rfl⟩ ?_, trivial⟩
   exact congrArg (fun s : Option Elem => (OV.box 41 3 (.dat (.elem (s.getD zE)))).aF.l) hnx
  | true =>
   have Sl : sU (fun e => oW q e.counts) l s (es.getD i default) = bif gy l (es.getD i default) && (s.isNone || decide (iO (es.getD i default) < iO (s.getD zE))) then some (es.getD i default) else s := by rw [sU, hD]; rfl
   refine ah.on (ah.row hl hte (show nG (es.getD i default).counts.length l em by rw [y5]; exact hem) rfl rfl (by decide) rfl (by decide) (by decide) (fun WB zy => ?_))
   replace zy : nG (es.getD i default).counts.length l WB := zy
   rw [y5] at zy
   conv => whnf
   refine .mk (by exact fun h => ⟨h, h⟩) ?_
   conv => whnf
   refine ah.on (ah.lend (S.mQ (mJ l (es.getD i default)) l.length false false (by rw [uD]; omega) (by rw [uD]; exact Nat.le_refl _)) ⟨aC _, Si trivial rfl, trivial⟩ rfl rfl ?_)
   rw [RY]
   conv => whnf
   repeat (refine VC.mk id ?_; conv => whnf)
   refine ah.cO (fun _ => S.iJ (es.getD i default) (by rw [y5]; omega)) rfl ?_
   conv => whnf
   refine VC.mk id ?_
   conv => whnf
   refine ah.cO (fun _ => S.iJ (s.getD zE) (by omega)) rfl ?_
   conv => whnf
   repeat (refine VC.mk (by first | exact id | exact fun h => ⟨h, h⟩ | (intro h; simp_all; done)) ?_; conv => whnf)
   refine ⟨fun h5 => ?_, fun h5 => ?_⟩
   ·have h5' : (gy l (es.getD i default) && (s.isNone || decide (iO (es.getD i default) < iO (s.getD zE)))) = true := by rw [← hsn]; exact h5
    rw [h5'] at Sl
    rw [Sl] at hnx
    have hfin := congrArg (fun s : Option Elem => (OV.box 41 3 (.dat (.elem (s.getD zE)))).aF.l) hnx
    conv => whnf
    refine .mk (by simp only [okI] at *; omega) ?_
    conv => whnf
    refine ⟨(i + 1, WB), [1, 2, 5, 6, 10, 51], ⟨by show i + 1 ≤ _; omega, zy⟩, by show es.length - (i + 1) < es.length - i; omega, ⟨⟨_, rfl, .eq rfl⟩, trivial⟩, ⟨⟨_, rfl, .eq rfl⟩, ⟨_, rfl, .eq rfl⟩, ⟨_, rfl, .eq rfl⟩, ⟨_, rfl, .eq rfl⟩, ⟨_, rfl, .eq rfl⟩, ⟨_, rfl, .eq rfl⟩, ⟨_, rfl, .eq rfl⟩, trivial⟩, okF rfl nofun rfl rfl rfl ⟨rfl, rfl⟩ rfl, okF rfl nofun rfl rfl rfl ⟨rfl, rfl⟩ rfl, ⟨rfl, nofun, rfl, rfl, _, rfl, rfl, rfl, bC.of_eq rfl⟩, okF rfl nofun rfl rfl rfl ⟨rfl, rfl⟩ rfl, okF rfl nofun rfl rfl rfl ⟨rfl, rfl⟩ rfl, okF rfl nofun rfl rfl rfl ⟨rfl, rfl⟩ ?_, trivial⟩
    exact hfin
   ·have h5' : (gy l (es.getD i default) && (s.isNone || decide (iO (es.getD i default) < iO (s.getD zE)))) = false := by rw [← hsn]; exact h5
    rw [h5'] at Sl
    rw [Sl] at hnx
    have hfin := congrArg (fun s : Option Elem => (OV.box 41 3 (.dat (.elem (s.getD zE)))).aF.l) hnx
    conv => whnf
    refine .mk (by simp only [okI] at *; omega) ?_
    conv => whnf
    refine ⟨(i + 1, WB), [1, 2, 5, 6, 10, 51], ⟨by show i + 1 ≤ _; omega, zy⟩, by show es.length - (i + 1) < es.length - i; omega, ⟨⟨_, rfl, .eq rfl⟩, trivial⟩, ⟨⟨_, rfl, .eq rfl⟩, ⟨_, rfl, .eq rfl⟩, ⟨_, rfl, .eq rfl⟩, ⟨_, rfl, .eq rfl⟩, ⟨_, rfl, .eq rfl⟩, ⟨_, rfl, .eq rfl⟩, ⟨_, rfl, .eq rfl⟩, trivial⟩, okF rfl nofun rfl rfl rfl ⟨rfl, rfl⟩ rfl, okF rfl nofun rfl rfl rfl ⟨rfl, rfl⟩ rfl, ⟨rfl, nofun, rfl, rfl, _, rfl, rfl, rfl, bC.of_eq rfl⟩, okF rfl nofun rfl rfl rfl ⟨rfl, rfl⟩ rfl, okF rfl nofun rfl rfl rfl ⟨rfl, rfl⟩ rfl, okF rfl nofun rfl rfl rfl ⟨rfl, rfl⟩ ?_, trivial⟩
    exact hfin
 ·have hi' : i = es.length := by have : es.length ≤ i := (by simpa using h3); omega
  subst hi'
  generalize (es.take es.length).foldl (sU (fun e => oW q e.counts) l) none = s at *
  conv => whnf
  refine ak.eqv ?_
  rw [YD]
  cases s with
  | none => rfl
  | some x =>
   have := Am x rfl
   show T.fQ [ru x, .bool true] = T.fQ [ru x, .bool (decide (0 < (x.counts.length : Int)))]
   rw [decide_eq_true (by omega)]
def FM (p : aS) (r : Rule) (l a : List Clause) : Nat × Elem := Ku (dI r) l a (eU (Oa (l ++ a) + 3) p.states.length (iM p))
def YE (n : Nat) (s : Nat × Elem) : List V := [.int (orM n s.1), .dat (.elem (bif s.1 == n then zE else s.2))]
theorem S.Og (p : aS) (l a : List Clause) (i : Nat) (f g : Bool) (hp : bg p) (hi : i < p.rules.length) (hin : uI p = 0) (hl : jZ p.states.length p.values.length l) (ha : jZ p.states.length p.values.length a) (hs : l.length + a.length ≤ 1000) :
  aj Tryz.prog 63 [.dat (.bT p), .dat (.rule (p.rules.getD i default)), .row 4 f (.clauses l), .row 4 g (.clauses a)] (.fQ (YE l.length (FM p (p.rules.getD i default) l a))) := by
 obtain ⟨hF, hpl⟩ := uF hin
 have := hF.values
 exact S.gZ p (p.rules.getD i default) l a p.states.length (iM p) f g hp (hp.rule i) rfl hF.pos hF.states rfl (by unfold iM; omega) (abX hF (TP hpl) hi) hl ha hs (Oa (l ++ a)) Qx
def G7 (p : aS) (rule : Int) (l a : List Clause) : Int := bif uI p != 0 then uI p else bif decide (rule < 0) || decide (rule ≥ p.rules.length) then 6 else Bq p l a
def P6 (p : aS) (rule : Int) (l a : List Clause) : V := .fQ ((bif G7 p rule l a != 0 then [.int 0, .dat (.elem zE)] else YE l.length (FM p (p.rules.getD rule.toNat default) l a)) ++ [.int (G7 p rule l a)])
theorem ak.zero3 {k j : Int} {h : Hz} : ak (.fQ [.int k, .dat (.elem zE), .int j]) (.fQ [.int k, .agg [.int 0, .row 0 true .nil], .int j]) h := ⟨by
 show T.sub _ _ (.fQ [.int k, .agg [.int 0, .sl 0 false []], .int j]) (.fQ [.int k, .agg [.int 0, .sl 0 true []], .int j])
 simp [T.sub, T.dH]⟩
theorem Ip {p : aS} {rule : Int} {l a : List Clause} {e : Int} (h : G7 p rule l a = e) (he : (e != 0) = true) : P6 p rule l a = .fQ [.int 0, .dat (.elem zE), .int e] := by
 rw [P6, h, he]; rfl
theorem YF {p : aS} {l a : List Clause} (h : Bq p l a = 0) : jZ p.states.length p.values.length l ∧ jZ p.states.length p.values.length a ∧ l.length ≤ 160 ∧ a.length ≤ 160 := by
 unfold Bq at h
 obtain ⟨h1, h2⟩ := bz nz h
 obtain ⟨a1, a2⟩ := zx (by simpa using h1)
 obtain ⟨b1, b2⟩ := zx h2
 exact ⟨a1, b1, a2, b2⟩
theorem S.gV (p : aS) (rule : Int) (l a : List Clause) (f g : Bool) (hp : bg p) (hl : SmallK l) (ha : SmallK a) : aj Tryz.prog 19 [.dat (.bT p), .int rule, .row 4 f (.clauses l), .row 4 g (.clauses a)] (P6 p rule l a) := by
 refine aj.of Bd.gV (by simp) rfl (by unfold P6; cases G7 p rule l a != 0 <;> rfl) ?_
 conv => whnf
 refine ah.pure (S.fC p hp) rfl ?_
 conv => whnf
 refine ⟨fun h1 => ?_, fun h1 => ?_⟩
 ·have he : G7 p rule l a = uI p := by rw [G7, show (uI p != 0) = true from h1]; rfl
  conv => whnf
  rw [Ip he h1]
  exact ak.zero3
 have hk := hp.rules
 conv => whnf
 repeat (refine VC.mk (by first | exact id | exact fun h => ⟨h, h⟩ | (intro h; rw [h]; rfl)) ?_; conv => whnf)
 refine ⟨fun h2 => ?_, fun h2 => ?_⟩
 ·have h2' : (decide (rule < 0) || decide (rule ≥ p.rules.length)) = true := h2
  have he : G7 p rule l a = 6 := by rw [G7, show (uI p != 0) = false from h1, h2']; rfl
  conv => whnf
  rw [Ip he (by decide)]
  exact ak.zero3
 have h2' : (decide (rule < 0) || decide (rule ≥ p.rules.length)) = false := h2
 have he : G7 p rule l a = Bq p l a := by rw [G7, show (uI p != 0) = false from h1, h2']; rfl
 rw [Bool.or_eq_false_iff, decide_eq_false_iff_not, decide_eq_false_iff_not] at h2'
 obtain ⟨r1, r2⟩ := h2'
 conv => whnf
 refine ah.lend (S.Jy p l a false f g hp hl ha) ⟨aC _, Oc trivial rfl rfl, trivial⟩ rfl rfl ?_
 conv => whnf
 refine ⟨fun h3 => ?_, fun h3 => ?_⟩
 ·conv => whnf
  rw [Ip he h3]
  exact ak.zero3
 obtain ⟨k1, k2, k3, k4⟩ := YF (uZ h3)
 have hV : P6 p rule l a = .fQ (YE l.length (FM p (p.rules.getD rule.toNat default) l a) ++ [.int 0]) := by
  rw [P6, he, uZ h3]; rfl
 rw [hV]
 conv => whnf
 refine .mk (by first | (simp only [Rw.rng]; omega)) ?_
 conv => whnf
 refine ah.pure (S.Og p l a rule.toNat f g hp (by omega) (uZ h1) k1 k2 (by omega)) rfl ?_
 conv => whnf
 exact ak.eqv rfl
def Yk (p : aS) (q : Prop') (l : List Clause) : V := .fQ [.dat (.elem (bif pW p q l != 0 then zE else (Gf p q l).getD zE)), .bool (bif pW p q l != 0 then false else (Gf p q l).isSome), .int (pW p q l)]
theorem ak.Sr {b : Bool} {j : Int} {h : Hz} : ak (.fQ [.dat (.elem zE), .bool b, .int j]) (.fQ [.agg [.int 0, .row 0 true .nil], .bool b, .int j]) h := ⟨by
 show T.sub _ _ (.fQ [.agg [.int 0, .sl 0 false []], .bool b, .int j]) (.fQ [.agg [.int 0, .sl 0 true []], .bool b, .int j])
 simp [T.sub, T.dH]⟩
theorem S.jA (p : aS) (q : Prop') (l : List Clause) (f : Bool) (hp : bg p) (hq : iG q) (hl : SmallK l) : aj Tryz.prog 24 [.dat (.bT p), .dat (.prop q), .row 4 f (.clauses l)] (Yk p q l) := by
 refine aj.of Bd.jA (by simp) rfl rfl ?_
 conv => whnf
 refine ah.pure (S.iW p q hp hq) rfl ?_
 conv => whnf
 refine ⟨fun h1 => ?_, fun h1 => ?_⟩
 ·have he : pW p q l = qE p q := by rw [pW, show (qE p q != 0) = true from h1]; rfl
  conv => whnf
  rw [Yk, he, show (qE p q != 0) = true from h1]
  exact ak.Sr
 have he : pW p q l = ng p l := by rw [pW, show (qE p q != 0) = false from h1]; rfl
 conv => whnf
 refine ah.lend (S.wP p l false f hp hl) ⟨aC _, Oc trivial rfl rfl, trivial⟩ rfl rfl ?_
 conv => whnf
 refine ⟨fun h2 => ?_, fun h2 => ?_⟩
 ·conv => whnf
  rw [Yk, he, show (ng p l != 0) = true from h2]
  exact ak.Sr
 obtain ⟨hv, hin, hk⟩ := zA (uZ h1)
 obtain ⟨hF, _⟩ := uF hin
 obtain ⟨hR, _⟩ := zx (uZ h2)
 rw [Yk, he, uZ h2]
 conv => whnf
 refine ah.pure (S.iC p q l f hp hq hl hF (Io hv hk) hR) rfl ?_
 conv => whnf
 exact ak.eqv rfl
def Gn (p : aS) (k : Clause) : Int := bif uI p != 0 then uI p else vY p k
def Dl (p : aS) (k : Clause) (e : Elem) : Int := bif Gn p k != 0 then Gn p k else cu (uY p e || iO e == 0) 1
def Js (p : aS) (k : Clause) (e : Elem) : V := .fQ [.bool (Dl p k e == 0 && holdsB k e), .int (Dl p k e)]
theorem aaF {p : aS} (h : uI p = 0) : Qy p = 0 := by
 unfold uI at h
 obtain ⟨h1, h2⟩ := bz (fun _ => by decide) h
 rw [h2] at h1
 have hm : (eF p).monadic = true := by simpa using h1
 rw [Qy, h2, hm, Bool.not_true, Bool.and_false]; rfl
theorem Oh {p : aS} {k : Clause} (h : Gn p k = 0) : uI p = 0 ∧ vY p k = 0 := by
 unfold Gn at h
 obtain ⟨h1, h2⟩ := bz nz h
 exact ⟨by simpa using h1, h2⟩
theorem S.gB (p : aS) (e : Elem) (hp : bg p) (he : e.counts.length < 2^30) (hin : uI p = 0) : aj Tryz.prog 71 [.dat (.bT p), .dat (.elem e)] (.int (cu (uY p e || iO e == 0) 1)) := by
 have hv : (Oi p e != 0) = uY p e := by
  rw [Oi, aaF hin]
  cases uY p e <;> rfl
 refine aj.of Bd.gB (by simp) rfl rfl ?_
 conv => whnf
 refine ah.pure (S.jI p e hp he) rfl ?_
 conv => whnf
 refine VC.mk id ?_
 conv => whnf
 rw [hv]
 conv => whnf
 refine ah.cO (fun _ => S.iJ e (by omega)) rfl ?_
 conv => whnf
 repeat (refine VC.mk (by first | exact id | (intro h; rw [h]; rfl)) ?_; conv => whnf)
 refine ⟨fun h1 => ?_, fun h1 => ?_⟩
 ·have h1' : (uY p e || iO e == 0) = true := h1
  conv => whnf
  exact ak.int (by rw [h1']; rfl)
 ·have h1' : (uY p e || iO e == 0) = false := h1
  conv => whnf
  exact ak.int (by rw [h1']; rfl)
theorem Sv {p : aS} {k : Clause} {e : Elem} (h : Dl p k e = 0) : Uc k e ∧ 0 < e.counts.length ∧ k.values.length < 2^30 ∧ uI p = 0 := by
 unfold Dl at h
 obtain ⟨h1, h2⟩ := bz nz h
 obtain ⟨hin, hcl⟩ := Oh (by simpa using h1)
 have h3 := EJ h2 (by decide)
 rw [Bool.or_eq_false_iff] at h3
 obtain ⟨a, b, c⟩ := aas h3.1
 obtain ⟨hF, _⟩ := uF hin
 have hc := ZP hcl
 have h4 := hF.pos; have h5 := hF.states; have h6 := hF.values; have h7 := hc.values.len
 exact ⟨⟨⟨_, by rw [a]; exact hc⟩, b, by omega⟩, by omega, by omega, hin⟩
theorem S.kF (p : aS) (k : Clause) (e : Elem) (hp : bg p) (hk : lT k) (he : e.counts.length < 2^30) : aj Tryz.prog 29 [.dat (.bT p), .dat (.clause k), .dat (.elem e)] (Js p k e) := by
 refine aj.of Bd.kF (by simp) rfl rfl ?_
 conv => whnf
 refine ah.pure (S.dW p k hp hk) rfl ?_
 conv => whnf
 refine ⟨fun h1 => ?_, fun h1 => ?_⟩
 ·have hv : (Gn p k != 0) = true := h1
  have hE : Dl p k e = Gn p k := by rw [Dl, hv]; rfl
  have hz : (Gn p k == 0) = false := beq_eq_false_iff_ne.2 (Gh hv)
  conv => whnf
  exact ak.eqv (by rw [Js, hE, hz]; rfl)
 have hv : (Gn p k != 0) = false := h1
 obtain ⟨hin, hcl⟩ := Oh (uZ hv)
 have hE : Dl p k e = cu (uY p e || iO e == 0) 1 := by rw [Dl, hv]; rfl
 conv => whnf
 refine ah.pure (S.gB p e hp he hin) rfl ?_
 conv => whnf
 refine ⟨fun h2 => ?_, fun h2 => ?_⟩
 ·have hz : (cu (uY p e || iO e == 0) 1 == 0) = false := beq_eq_false_iff_ne.2 (Gh h2)
  conv => whnf
  exact ak.eqv (by rw [Js, hE, hz]; rfl)
 have hz : cu (uY p e || iO e == 0) 1 = 0 := uZ h2
 obtain ⟨hf, h0, hkv, _⟩ := Sv (hE.trans hz)
 conv => whnf
 refine ah.pure (S.kD k e hf h0 hkv) rfl ?_
 conv => whnf
 exact ak.eqv (by rw [Js, hE, hz]; rfl)
def zC (p : aS) (l a : List Clause) (r : Rule) : Bool := (FM p r l a).1 == l.length
def Oj (p : aS) (q : Prop') (l a : List Clause) : Bool := ((ng p a == 0) && decide (l.length + a.length ≤ 160)) && (p.rules.all (zC p l a) && (Gf p q (l ++ a)).isNone)
def ccB (p : aS) (q : Prop') (l a : List Clause) : Bool := ((pW p q l == 0) && (yu l (EU p q l) == l.length)) && Oj p q l a
theorem ZR {n m : Nat} (_h : m ≤ n) : decide (orM n m ≥ 0) = !(m == n) := by
 unfold orM
 cases he : m == n with
 | true => rfl
 | false => simp only [cond_false]; exact decide_eq_true (by omega)
theorem S.eX (p : aS) (q : Prop') (l a : List Clause) (f g : Bool) (hp : bg p) (hq : iG q) (hl : SmallK l) (ha : SmallK a) : aj Tryz.prog 22 [.dat (.bT p), .dat (.prop q), .row 4 f (.clauses l), .row 4 g (.clauses a)] (.bool (ccB p q l a)) := by
 have k1 := hl.len; have k2 := ha.len
 refine aj.of Bd.eX (by simp) rfl rfl ?_
 conv => whnf
 refine ah.pure (S.dV p q l f hp hq hl) rfl ?_
 rw [EG]
 cases he : pW p q l != 0 with
 | true =>
  have hcT : (pW p q l != 0 || decide (0 ≤ bif true then 0 else orM l.length (yu l (EU p q l)))) = true := by rw [he]; rfl
  conv => whnf
  repeat (refine VC.mk (by first | exact id | (intro h; rw [h]; rfl)) ?_; conv => whnf)
  refine Fork.mk (fun _ => ?_) (fun q => absurd (q.symm.trans (hcT)) Bool.false_ne_true)
  conv => whnf
  exact ak.bool (by rw [ccB, show (pW p q l == 0) = false from beq_eq_false_iff_ne.2 (Gh he)]; rfl)
 | false =>
  have he0 : pW p q l = 0 := uZ he
  have hor := ZR (n := l.length) (m := yu l (EU p q l)) V5
  rw [he0]
  conv => whnf
  repeat (refine VC.mk (by first | exact id | (intro h; rw [h]; rfl)) ?_; conv => whnf)
  refine ⟨fun h1 => ?_, fun h1 => ?_⟩
  ·have h1' : decide (orM l.length (yu l (EU p q l)) ≥ 0) = true := h1
   conv => whnf
   refine ak.bool ?_
   rw [hor] at h1'
   have h2 : (yu l (EU p q l) == l.length) = false := by simpa only [Bool.not_eq_true'] using h1'
   rw [ccB, h2, Bool.and_false]; rfl
  have h1' : decide (orM l.length (yu l (EU p q l)) ≥ 0) = false := h1
  rw [hor] at h1'
  have h2 : (yu l (EU p q l) == l.length) = true := by simpa only [Bool.not_eq_false'] using h1'
  have hcc : ccB p q l a = Oj p q l a := by rw [ccB, he0, h2]; rfl
  rw [hcc]
  conv => whnf
  refine ah.lend (S.wP p a false g hp ha) ⟨aC _, Oc trivial rfl rfl, trivial⟩ rfl rfl ?_
  conv => whnf
  repeat (refine VC.mk (by first | exact id | (intro h; rw [h]; rfl) | (intro h; (repeat' apply And.intro) <;> first | exact h | omega | (simp only [Rw.mD]; omega) | (simp only [Rw.rng]; omega))) ?_; conv => whnf)
  refine ⟨fun h3 => ?_, fun h3 => ?_⟩
  ·have h3' : (ng p a != 0 || decide ((l.length : Int) + a.length > 160)) = true := h3
   conv => whnf
   refine ak.bool ?_
   have : ((ng p a == 0) && decide (l.length + a.length ≤ 160)) = false := by
    rw [Bool.or_eq_true] at h3'
    rcases h3' with h | h
    ·rw [show (ng p a == 0) = false from beq_eq_false_iff_ne.2 (Gh h)]; rfl
    ·have := of_decide_eq_true h
     rw [decide_eq_false (show ¬ (l.length + a.length ≤ 160) by omega), Bool.and_false]
   rw [Oj, this]; rfl
  have h3' : (ng p a != 0 || decide ((l.length : Int) + a.length > 160)) = false := h3
  rw [Bool.or_eq_false_iff, decide_eq_false_iff_not] at h3'
  obtain ⟨h4, h5⟩ := h3'
  have hlen : l.length + a.length ≤ 160 := by omega
  have hrest : Oj p q l a = (p.rules.all (zC p l a) && (Gf p q (l ++ a)).isNone) := by
   rw [Oj, uZ h4, decide_eq_true hlen]; rfl
  rw [hrest]
  have hE : qE p q = 0 ∧ ng p l = 0 := by
   unfold pW at he0
   obtain ⟨u, v⟩ := bz nz he0
   exact ⟨by simpa using u, v⟩
  obtain ⟨hv, hin, hk⟩ := zA hE.1
  obtain ⟨hF, _⟩ := uF hin
  obtain ⟨hR, _⟩ := zx hE.2
  obtain ⟨hA, _⟩ := zx (uZ h4)
  have hla := hR.app hA (by omega)
  have hru := hp.rules
  conv => whnf
  refine aG.same [2, 3, 4, 5, 44, 45] (fun i : Nat => [(46, .int i)]) (fun i => i ≤ p.rules.length ∧ (p.rules.take i).all (zC p l a) = true) (fun i => p.rules.length - i) 0 rfl (by decide) rfl (fun _ => rfl) ⟨by omega, by simp⟩ ⟨⟨_, rfl, rfl⟩, trivial⟩ ?_
  conv => whnf
  refine ⟨rfl, ?_⟩
  rintro i ⟨hi, hall⟩
  conv => whnf
  refine ⟨fun h6 => ?_, fun h6 => ?_⟩
  ·have hi' : i < p.rules.length := by simpa using h6
   have hsl : (FM p (p.rules.getD i default) l a).1 ≤ l.length := NV
   have hog := ZR hsl
   conv => whnf
   refine .mk (by simp only [Rw.rng] at *; omega) ?_
   conv => whnf
   refine ah.pure (S.Og p l a i f g hp hi' hin hR hA (by omega)) rfl ?_
   rw [YE]
   conv => whnf
   refine ⟨fun h7 => ?_, fun h7 => ?_⟩
   ·have X7 : decide (orM l.length (FM p (p.rules.getD i default) l a).1 ≥ 0) = true := h7
    conv => whnf
    refine ak.bool ?_
    rw [hog] at X7
    have h8 : zC p l a (p.rules.getD i default) = false := by rw [zC]; simpa only [Bool.not_eq_true'] using X7
    rw [kV (p := zC p l a) (d := default) hi' h8]; rfl
   ·have X7 : decide (orM l.length (FM p (p.rules.getD i default) l a).1 ≥ 0) = false := h7
    conv => whnf
    refine .mk (by simp only [okI] at *; omega) ?_
    conv => whnf
    rw [hog] at X7
    have h8 : zC p l a (p.rules.getD i default) = true := by rw [zC]; simpa only [Bool.not_eq_false'] using X7
    refine ⟨i + 1, ⟨by omega, ?_⟩, by omega, ⟨⟨_, rfl, rfl⟩, trivial⟩, ?_, rfl⟩
    ·rw [kC (d := default) hi' hall]; exact h8
    ·repeat' (first | exact trivial | exact ⟨_, rfl, rfl⟩ | constructor)
  ·have hi' : p.rules.length ≤ i := by simpa using h6
   rw [List.take_of_length_le hi'] at hall
   rw [hall]
   conv => whnf
   refine ah.pure (S.jr l a f g (by omega) (by omega)) rfl ?_
   conv => whnf
   conv => whnf
   refine ah.pure (S.iC p q (l ++ a) false hp hq (hla.small hF.states hF.values) hF (Io hv hk) hla) rfl ?_
   rw [YD]
   conv => whnf
   refine ak.bool ?_
   cases Gf p q (l ++ a) <;> rfl
theorem VN {m n vals : Nat} : (((m + 1)^n - 1 : Nat) : Int) * vals = ((eU (m + 1) n vals).length : Int) := by
 rw [oL, Nat.mul_comm]; simp
def yY (p : aS) (most : Int) : Int := bif uI p != 0 then uI p else bif decide (most < 0) || decide (most > 8) then 1 else bif decide ((((most.toNat + 1)^p.states.length - 1 : Nat) : Int) * max 1 (p.values.length : Int) > 4000) then 4 else 0
def Dn (p : aS) (most : Int) : List Elem := bif yY p most == 0 then eU (most.toNat + 1) p.states.length (iM p) else []
def Dp (p : aS) (most : Int) : V := .fQ [.row 3 false (.elems (Dn p most)), .int (yY p most)]
theorem ak.Uz {e : Int} {h : Hz} : ak (.fQ [.row 3 false (.elems []), .int e]) (.fQ [.row 0 true .nil, .int e]) h := ⟨by
 show T.sub _ _ (.fQ [.sl 3 false [], .int e]) (.fQ [.sl 0 true [], .int e])
 simp [T.sub, T.dH]⟩
theorem Ol {m i : Nat} : (((m + 1)^(i + 1) : Nat) : Int) = ((m + 1)^i : Nat) * ((m : Int) + 1) := by
 rw [Nat.pow_succ]; simp
theorem S.jB (p : aS) (most : Int) (hp : bg p) (hmo : okI most) : aj Tryz.prog 26 [.dat (.bT p), .int most] (Dp p most) := by
 refine aj.of Bd.jB (by simp) rfl rfl ?_
 conv => whnf
 refine ah.pure (S.fC p hp) rfl ?_
 conv => whnf
 refine ⟨fun h1 => ?_, fun h1 => ?_⟩
 ·have he : yY p most = uI p := by rw [yY, show (uI p != 0) = true from h1]; rfl
  have hz : (uI p == 0) = false := beq_eq_false_iff_ne.2 (Gh h1)
  conv => whnf
  rw [Dp, Dn, he, hz]
  exact ak.Uz
 conv => whnf
 repeat (refine VC.mk (by first | exact id | (intro h; rw [h]; rfl)) ?_; conv => whnf)
 refine ⟨fun h2 => ?_, fun h2 => ?_⟩
 ·have h2' : (decide (most < 0) || decide (most > 8)) = true := h2
  have he : yY p most = 1 := by rw [yY, show (uI p != 0) = false from h1, h2']; rfl
  conv => whnf
  rw [Dp, Dn, he]
  exact ak.Uz
 have h2' : (decide (most < 0) || decide (most > 8)) = false := h2
 obtain ⟨hF, _⟩ := uF (uZ h1)
 have g1 := hF.pos; have g2 := hF.states; have g3 := hF.values
 have he : yY p most = bif decide ((((most.toNat + 1)^p.states.length - 1 : Nat) : Int) * max 1 (p.values.length : Int) > 4000) then 4 else 0 := by rw [yY, show (uI p != 0) = false from h1, h2']; rfl
 rw [Bool.or_eq_false_iff, decide_eq_false_iff_not, decide_eq_false_iff_not] at h2'
 obtain ⟨m, rfl⟩ : ∃ m : Nat, most = m := ⟨most.toNat, by omega⟩
 have X8 : m ≤ 8 := by omega
 have hpb : ∀ i, i ≤ p.states.length → (m + 1)^i ≤ 531441 := fun i hi => og (by omega) (by omega)
 conv => whnf
 refine aG.same [1, 2, 20, 21] (fun i : Nat => [(22, .int i), (7, .int (((m + 1)^i : Nat) : Int))]) (fun i => i ≤ p.states.length) (fun i => p.states.length - i) 0 rfl (by decide) rfl (fun _ => rfl) (Nat.zero_le _) ⟨⟨_, rfl, rfl⟩, ⟨_, rfl, rfl⟩, trivial⟩ ?_
 conv => whnf
 refine ⟨rfl, ?_⟩
 rintro i hi
 have hp1 := hpb i hi
 have hpz : (((m + 1)^i : Nat) : Int) * ((m : Int) + 1) ≤ 531441 * 9 := Int.mul_le_mul (by omega) (by omega) (by omega) (by omega)
 have hpn : 0 ≤ (((m + 1)^i : Nat) : Int) * ((m : Int) + 1) := Int.mul_nonneg (by omega) (by omega)
 conv => whnf
 refine ⟨fun h3 => ?_, fun h3 => ?_⟩
 ·have hi' : i < p.states.length := by simpa using h3
  have hpx := Ol (m := m) (i := i)
  conv => whnf
  repeat (refine VC.mk (by simp only [okI]; omega) ?_; conv => whnf)
  refine ⟨i + 1, by omega, by omega, ⟨⟨_, rfl, rfl⟩, ⟨_, rfl, ?_⟩, trivial⟩, ?_, rfl⟩
  ·rw [hpx]; rfl
  ·repeat' (first | exact trivial | exact ⟨_, rfl, rfl⟩ | constructor)
 have hi' : i = p.states.length := by have : p.states.length ≤ i := (by simpa using h3); omega
 subst hi'
 have hp0 : 0 < (m + 1)^p.states.length := Nat.pow_pos (by omega)
 have hcast : (((m + 1)^p.states.length : Nat) : Int) - 1 = (((m + 1)^p.states.length - 1 : Nat) : Int) := by omega
 have hm1 : (((m + 1)^p.states.length - 1 : Nat) : Int) * max 1 (p.values.length : Int) ≤ 531441 * 3 := Int.mul_le_mul (by omega) (by omega) (by omega) (by omega)
 have hm0 : 0 ≤ (((m + 1)^p.states.length - 1 : Nat) : Int) * max 1 (p.values.length : Int) := Int.mul_nonneg (by omega) (by omega)
 conv => whnf
 repeat (refine VC.mk (by first | (simp only [okI]; omega) | (rw [hcast]; simp only [okI]; omega)) ?_; conv => whnf)
 rw [hcast]
 refine ⟨fun h4 => ?_, fun h4 => ?_⟩
 ·have h4' : decide ((((m + 1)^p.states.length - 1 : Nat) : Int) * max 1 (p.values.length : Int) > 4000) = true := h4
  rw [Int.toNat_natCast, h4'] at he
  conv => whnf
  rw [Dp, Dn, he]
  exact ak.Uz
 have h4' : decide ((((m + 1)^p.states.length - 1 : Nat) : Int) * max 1 (p.values.length : Int) > 4000) = false := h4
 rw [Int.toNat_natCast, h4'] at he
 have hV : Dp p m = .fQ [.row 3 false (.elems (eU (m + 1) p.states.length (iM p))), .int 0] := by
  rw [Dp, Dn, he]; rfl
 rw [hV]
 conv => whnf
 refine ah.pure (S.eG p p.states.length (iM p) m hp rfl g1 g2 rfl (by unfold iM; omega) X8) rfl ?_
 conv => whnf
 exact ak.eqv rfl
theorem S.qp (p : aS) (most : Int) (hp : bg p) (hmo : okI most) : aj Tryz.prog 27 [.dat (.bT p), .int most] (Dp p most) := by
 refine aj.of Bd.qp (by simp) rfl rfl ?_
 conv => whnf
 refine ah.pure (S.rP p hp) rfl ?_
 conv => whnf
 refine ⟨fun h1 => ?_, fun h1 => ?_⟩
 ·have he : yY p most = uI p := by rw [yY, show (uI p != 0) = true from h1]; rfl
  have hz : (uI p == 0) = false := beq_eq_false_iff_ne.2 (Gh h1)
  conv => whnf
  rw [Dp, Dn, he, hz]
  exact ak.Uz
 conv => whnf
 repeat (refine VC.mk (by first | exact id | (intro h; rw [h]; rfl)) ?_; conv => whnf)
 refine ⟨fun h2 => ?_, fun h2 => ?_⟩
 ·have h2' : (decide (most < 0) || decide (most > 8)) = true := h2
  have he : yY p most = 1 := by rw [yY, show (uI p != 0) = false from h1, h2']; rfl
  conv => whnf
  rw [Dp, Dn, he]
  exact ak.Uz
 have h2' : (decide (most < 0) || decide (most > 8)) = false := h2
 obtain ⟨hF, _⟩ := uF (uZ h1)
 have g1 := hF.pos; have g2 := hF.states; have g3 := hF.values
 have he : yY p most = bif decide ((((most.toNat + 1)^p.states.length - 1 : Nat) : Int) * max 1 (p.values.length : Int) > 4000) then 4 else 0 := by rw [yY, show (uI p != 0) = false from h1, h2']; rfl
 rw [Bool.or_eq_false_iff, decide_eq_false_iff_not, decide_eq_false_iff_not] at h2'
 obtain ⟨m, rfl⟩ : ∃ m : Nat, most = m := ⟨most.toNat, by omega⟩
 have X8 : m ≤ 8 := by omega
 have hpb : ∀ i, i ≤ p.states.length → (m + 1)^i ≤ 531441 := fun i hi => og (by omega) (by omega)
 conv => whnf
 refine aG.same [1, 2] (fun i : Nat => [(8, .int i), (7, .int (((m + 1)^i : Nat) : Int))]) (fun i => i ≤ p.states.length) (fun i => p.states.length - i) 0 rfl (by decide) rfl (fun _ => rfl) (Nat.zero_le _) ⟨⟨_, rfl, rfl⟩, ⟨_, rfl, rfl⟩, trivial⟩ ?_
 conv => whnf
 refine ⟨rfl, ?_⟩
 rintro i hi
 have hp1 := hpb i hi
 have hpz : (((m + 1)^i : Nat) : Int) * ((m : Int) + 1) ≤ 531441 * 9 := Int.mul_le_mul (by omega) (by omega) (by omega) (by omega)
 have hpn : 0 ≤ (((m + 1)^i : Nat) : Int) * ((m : Int) + 1) := Int.mul_nonneg (by omega) (by omega)
 conv => whnf
 refine ⟨fun h3 => ?_, fun h3 => ?_⟩
 ·have hi' : i < p.states.length := by simpa using h3
  have hpx := Ol (m := m) (i := i)
  conv => whnf
  repeat (refine VC.mk (by simp only [okI]; omega) ?_; conv => whnf)
  refine ⟨i + 1, by omega, by omega, ⟨⟨_, rfl, rfl⟩, ⟨_, rfl, ?_⟩, trivial⟩, ?_, rfl⟩
  ·rw [hpx]; rfl
  ·repeat' (first | exact trivial | exact ⟨_, rfl, rfl⟩ | constructor)
 have hi' : i = p.states.length := by have : p.states.length ≤ i := (by simpa using h3); omega
 subst hi'
 have hp0 : 0 < (m + 1)^p.states.length := Nat.pow_pos (by omega)
 have hcast : (((m + 1)^p.states.length : Nat) : Int) - 1 = (((m + 1)^p.states.length - 1 : Nat) : Int) := by omega
 have hm1 : (((m + 1)^p.states.length - 1 : Nat) : Int) * max 1 (p.values.length : Int) ≤ 531441 * 3 := Int.mul_le_mul (by omega) (by omega) (by omega) (by omega)
 have hm0 : 0 ≤ (((m + 1)^p.states.length - 1 : Nat) : Int) * max 1 (p.values.length : Int) := Int.mul_nonneg (by omega) (by omega)
 conv => whnf
 repeat (refine VC.mk (by first | (simp only [okI]; omega) | (rw [hcast]; simp only [okI]; omega)) ?_; conv => whnf)
 rw [hcast]
 refine ⟨fun h4 => ?_, fun h4 => ?_⟩
 ·have h4' : decide ((((m + 1)^p.states.length - 1 : Nat) : Int) * max 1 (p.values.length : Int) > 4000) = true := h4
  rw [Int.toNat_natCast, h4'] at he
  conv => whnf
  rw [Dp, Dn, he]
  exact ak.Uz
 have h4' : decide ((((m + 1)^p.states.length - 1 : Nat) : Int) * max 1 (p.values.length : Int) > 4000) = false := h4
 rw [Int.toNat_natCast, h4'] at he
 have hV : Dp p m = .fQ [.row 3 false (.elems (eU (m + 1) p.states.length (iM p))), .int 0] := by
  rw [Dp, Dn, he]; rfl
 rw [hV]
 conv => whnf
 refine ah.pure (S.rV p p.states.length (iM p) m hp rfl g1 g2 rfl (by unfold iM; omega) X8) rfl ?_
 conv => whnf
 exact ak.eqv rfl
end Go.Proofs.YtifbibbicplneaaGreatDoor
