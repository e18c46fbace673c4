/-
 A part of the proof. No condition.
-/
import Derived.Test.YtifbibbicplneaaGreatDoorBb
namespace Go.Proofs.YtifbibbicplneaaGreatDoor
open Go.Ab Go.Proofs
set_option maxRecDepth 100000
theorem SmallK.each {l : List Clause} (h : SmallK l) (i : Nat) : (l.getD i default).each.length < 2^30 := (h.cl i).each
theorem VK {v : V} (h : v.free = true) : T.dA [v.aH] = true := by
 show (v.aH.free && true) = true
 rw [V.lZ v h]; rfl
theorem ah.RJ {P : Program} {dr : Bool} {g : Option Bool} {f : FuncId} {args args' : List V} {h : Hz} {n : Nat} {K : V → Hz → Prop} {KW : Nat → V → Hz → Prop} (e : V.aY args' = V.aY args) (H : ah P dr g f args' h n K KW) : ah P dr g f args h n K KW := by
 have := H.ok
 rw [e] at this
 exact ⟨this⟩
theorem JX {b n vals : Nat} {e : Elem} (hb : 0 < b) (hn : n < 2^20) (h : e ∈ eU b n vals) : e.counts.length < 2^20 := by
 have := (x9 hb e h).len
 omega
theorem S.gW (p : aS) (q : Prop') (l : List Clause) (f : Bool) (hp : bg p) (hq : iG q) (hl : SmallK l) : aj Tryz.prog 3 [.dat (.bT p), .dat (.prop q), .row 4 f (.clauses l)] (.bool true) := by
 have k1 := hl.len
 refine aj.of Bd.gW (by simp) (by cases f <;> rfl) rfl ?_
 conv => whnf
 refine ah.lend (S.FN 20 l false f k1 hl.each) (And.intro (aC _) (And.intro (sK trivial (VK rfl) (by decide) rfl) trivial)) rfl rfl ?_
 conv => whnf
 repeat (refine VC.mk id ?_; conv => whnf)
 refine ⟨fun h1 => ?_, fun h1 => ?_⟩
 ·conv => whnf
  refine ah.pure (S.fA) rfl ?_
  conv => whnf
  exact ak.bool rfl
 conv => whnf
 refine ah.pure (S.dV p q l f hp hq hl) rfl ?_
 rw [EG]
 conv => whnf
 refine ah.pure (S.jy p q l f hp hq hl) rfl ?_
 rw [EG]
 conv => whnf
 repeat (refine VC.mk (by first | exact id | exact fun h => ⟨h, h⟩) ?_; conv => whnf)
 refine ah.cO (fun _ => S.fA) rfl ?_
 conv => whnf
 refine VC.mk id ?_
 conv => whnf
 exact ak.bool (by rw [beq_self_eq_true, beq_self_eq_true]; rfl)
theorem S.iH (p : aS) (k : Clause) (e : Elem) (hp : bg p) (hk : lT k) (he : e.counts.length < 2^30) : aj Tryz.prog 8 [.dat (.bT p), .dat (.clause k), .dat (.elem e)] (.bool true) := by
 refine aj.of Bd.iH (by simp) rfl rfl ?_
 conv => whnf
 refine ah.pure (S.kF p k e hp hk he) rfl ?_
 rw [Js]
 conv => whnf
 refine ah.pure (S.sQ p k e hp hk he) rfl ?_
 rw [Js]
 conv => whnf
 repeat (refine VC.mk (by first | exact id | exact fun h => ⟨h, h⟩) ?_; conv => whnf)
 refine ah.cO (fun _ => S.fA) rfl ?_
 conv => whnf
 refine VC.mk id ?_
 conv => whnf
 refine ak.bool ?_
 cases Dl p k e == 0 && holdsB k e <;> simp
theorem VL {p : aS} {q : Prop'} {l : List Clause} (hp : bg p) : (bif pW p q l != 0 then zE else (Gf p q l).getD zE).counts.length < 2^20 := by
 have hz : zE.counts.length < 2^20 := by decide
 cases pW p q l != 0 with
 | true => exact hz
 | false =>
  show ((Gf p q l).getD zE).counts.length < 2^20
  cases hm : Gf p q l with
  | none => exact hz
  | some x => exact JX (by omega) hp.states (Hg hm)
theorem Yj {p : aS} {q : Prop'} {l : List Clause} (hp : bg p) : ∃ (x : Elem) (y : Bool), Yk p q l = .fQ [.dat (.elem x), .bool y, .int (pW p q l)] ∧ x.counts.length < 2^20 := ⟨_, _, rfl, VL hp⟩
theorem S.gX (p : aS) (q : Prop') (l : List Clause) (f : Bool) (hp : bg p) (hq : iG q) (hl : SmallK l) : aj Tryz.prog 6 [.dat (.bT p), .dat (.prop q), .row 4 f (.clauses l)] (.bool true) := by
 have k1 := hl.len
 refine aj.of Bd.gX (by simp) (by cases f <;> rfl) rfl ?_
 conv => whnf
 refine ah.lend (S.FN 20 l false f k1 hl.each) (And.intro (aC _) (And.intro (sK trivial (VK rfl) (by decide) rfl) trivial)) rfl rfl ?_
 conv => whnf
 repeat (refine VC.mk id ?_; conv => whnf)
 refine ⟨fun h1 => ?_, fun h1 => ?_⟩
 ·conv => whnf
  refine ah.pure (S.fA) rfl ?_
  conv => whnf
  exact ak.bool rfl
 conv => whnf
 obtain ⟨x, y, hV, hx⟩ := Yj (p := p) (q := q) (l := l) hp
 have h1 := S.jA p q l f hp hq hl
 have h2 := S.qh p q l f hp hq hl
 rw [hV] at h1 h2
 refine ah.pure h1 rfl ?_
 conv => whnf
 refine ah.pure h2 rfl ?_
 conv => whnf
 repeat (refine VC.mk (by first | exact id | exact fun h => ⟨h, h⟩) ?_; conv => whnf)
 refine ah.cO (fun _ => S.nI x x (by omega) (by omega)) rfl ?_
 conv => whnf
 repeat (refine VC.mk id ?_; conv => whnf)
 refine ah.cO (fun _ => S.fA) rfl ?_
 conv => whnf
 refine VC.mk id ?_
 conv => whnf
 refine ak.bool ?_
 rw [Lu.2 rfl]
 cases y <;> simp
theorem TI {p : aS} {most : Int} (hp : bg p) : Hl (Dn p most) := by
 unfold Dn
 intro e he
 cases hc : yY p most == 0 with
 | true => rw [hc] at he; have := JX (by omega) hp.states he; omega
 | false => rw [hc] at he; cases he
theorem Yl {p : aS} {most : Int} : (Dn p most).length ≤ 4000 := by
 unfold Dn
 cases hc : yY p most == 0 with
 | false => exact Nat.zero_le _
 | true =>
  have h0 : yY p most = 0 := eq_of_beq hc
  unfold yY at h0
  show (eU (most.toNat + 1) p.states.length (iM p)).length ≤ 4000
  cases h1 : uI p != 0 with
  | true => rw [h1] at h0; have : uI p = 0 := h0; rw [this] at h1; cases h1
  | false =>
   rw [h1] at h0
   cases h2 : decide (most < 0) || decide (most > 8) with
   | true => rw [h2] at h0; exact absurd (show (1 : Int) = 0 from h0) (by decide)
   | false =>
    rw [h2] at h0
    cases h3 : decide ((((most.toNat + 1)^p.states.length - 1 : Nat) : Int) * max 1 (p.values.length : Int) > 4000) with
    | true => rw [h3] at h0; exact absurd (show (4 : Int) = 0 from h0) (by decide)
    | false =>
     have h4 := of_decide_eq_false h3
     have h5 := VN (m := most.toNat) (n := p.states.length) (vals := iM p)
     have h6 : ((iM p : Nat) : Int) = max 1 (p.values.length : Int) := by unfold iM; omega
     rw [h6] at h5
     omega
theorem S.fK (p : aS) (most : Int) (hp : bg p) (hm : okI most) : aj Tryz.prog 7 [.dat (.bT p), .int most] (.bool true) := by
 refine aj.of Bd.fK (by simp) rfl rfl ?_
 conv => whnf
 refine ah.pure (S.jB p most hp hm) rfl ?_
 rw [Dp]
 conv => whnf
 refine ah.pure (S.qp p most hp hm) rfl ?_
 rw [Dp]
 conv => whnf
 refine .mk (by exact fun h => ⟨h, h⟩) ?_
 conv => whnf
 have hle := Yl (p := p) (most := most)
 have hsm := TI (p := p) (most := most) hp
 generalize Dn p most = l at hle hsm ⊢
 refine ah.cO (fun _ => S.zk l l false false (by omega) (by omega) hsm hsm) rfl ?_
 conv => whnf
 refine VC.mk id ?_
 conv => whnf
 refine ah.cO (fun _ => S.fA) rfl ?_
 conv => whnf
 refine VC.mk id ?_
 conv => whnf
 exact ak.bool (by simp)
theorem S.fU (p : aS) (q : Prop') (a b : Clause) (hp : bg p) (hq : iG q) (ha : lT a) (hb : lT b) : aj Tryz.prog 13 [.agg (Dat.cells (.bT p) ++ Dat.cells (.prop q)), .dat (.clause a), .dat (.clause b)] (.bool true) := by
 refine aj.of Bd.fU (by simp) rfl rfl ?_
 conv => whnf
 refine ah.RJ (args' := [.dat (.bT p), .dat (.prop q)]) rfl (ah.pure (S.iW p q hp hq) rfl ?_)
 conv => whnf
 refine ah.RJ (args' := [.dat (.bT p), .dat (.prop q)]) rfl (ah.pure (S.rF p q hp hq) rfl ?_)
 conv => whnf
 refine .mk (by exact fun h => ⟨h, h⟩) ?_
 conv => whnf
 refine ah.RJ (args' := [.dat (.bT p), .dat (.clause a)]) rfl (ah.cO (fun _ => S.dW p a hp ha) rfl ?_)
 conv => whnf
 refine .mk (by exact fun h => ⟨h, h⟩) ?_
 conv => whnf
 refine ah.RJ (args' := [.dat (.bT p), .dat (.clause a)]) rfl (ah.cO (fun _ => S.ku p a hp ha) rfl ?_)
 conv => whnf
 repeat (refine VC.mk (by first | exact id | exact fun h => ⟨h, h⟩) ?_; conv => whnf)
 refine ah.cO (fun _ => S.fM a b ha hb) rfl ?_
 conv => whnf
 refine .mk (by exact fun h => ⟨h, h⟩) ?_
 conv => whnf
 refine ah.cO (fun _ => S.kG a b ha hb) rfl ?_
 conv => whnf
 repeat (refine VC.mk (by first | exact id | exact fun h => ⟨h, h⟩) ?_; conv => whnf)
 have hK : SmallK [a, b] := by
  refine ⟨show (2 : Nat) < 2^30 by decide, fun i => ?_⟩
  match i with
  | 0 => exact ha
  | 1 => exact hb
  | i + 2 => constructor <;> first | (exact (by decide : (0 : Nat) < 2^30)) | (intro i; exact (by decide : (0 : Nat) < 2^30))
 refine ah.JW (fun _ => S.lq [a, b] false hK) (fun _ => And.intro (sK trivial rfl (by decide) rfl) trivial) rfl rfl ?_
 conv => whnf
 refine VC.mk id ?_
 conv => whnf
 refine ah.JW (fun _ => S.uU [a, b] false hK) (fun _ => And.intro (sK trivial rfl (by decide) rfl) trivial) rfl rfl ?_
 conv => whnf
 repeat (refine VC.mk (by first | exact id | exact fun h => ⟨h, h⟩) ?_; conv => whnf)
 refine ah.cO (fun _ => S.fA) rfl ?_
 conv => whnf
 refine VC.mk id ?_
 conv => whnf
 exact ak.bool (by simp)
end Go.Proofs.YtifbibbicplneaaGreatDoor
