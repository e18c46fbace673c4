/-
 A part of the proof. No condition.
-/
import Derived.Test.YtifbibbicplneaaGreatDoorId
import Derived.Test.YtifbibbicplneaaGreatDoorBd
namespace Go.Proofs.YtifbibbicplneaaGreatDoor
open Go.Ab Go.Proofs
set_option maxRecDepth 100000
theorem aT.VB {P : Program} {f : FuncId} {ts ts' : List T} {h h2 : Hz} {n : Nat} {K : T → Hp → Prop} (Z : Nat → Prop) (W : Jr Z h h2) (hs : T.dH Z h.au ts ts') (H : aT P f ts h2.au n K) : aT P f ts' h.au n K := by
 obtain ⟨hex, hcl, hcall⟩ := H
 refine ⟨hex, hcl, fun F M E vs hk he hts hid hm hn => ?_⟩
 have hget : ∀ i ob, h2.au i = some ob → ∃ ob', E.h (id i) = some ob' ∧ ¬ Z (id i) ∧ ob'.ty = ob.ty ∧ ob'.k = ob.k ∧ T.dH Z E.h ob.l ob'.l ∧ ob.l.map T.kd = ob'.l.map T.kd ∧ ob.l.map gU = ob'.l.map gU := fun i ob hi => by
  simp only [Hz.au, Option.map_eq_some_iff] at hi
  obtain ⟨o, e1, rfl⟩ := hi
  obtain ⟨o', a1, a2, a3, a4, a5, a6, a7⟩ := GY W e1
  exact ⟨o'.aF, by rw [he]; exact aN a1, a2, a3, a4, by rw [he]; exact a5, a6, a7⟩
 have hob : ∀ i ob, h2.au i = some ob → ∃ ob', E.h (id i) = some ob' ∧ ¬ Z (id i) ∧ JR Z E.h id ob ob' := fun i ob hi => by
  obtain ⟨ob', a1, a2, a3, a4, a5, a6, a7⟩ := hget i ob hi
  refine ⟨ob', a1, a2, a3, a4, by rw [Ls]; exact a5, ?_⟩
  rcases (hk.obs _ _ a1).1.kinds with ⟨k1, k2⟩ | ⟨k1, k2⟩
  ·exact .inl ⟨by rw [← a4]; exact k1, Nz a7 k2⟩
  ·exact .inr ⟨by rw [← a4]; exact k1, by rw [← a4]; exact JU a6 k2⟩
 have hl : ∀ i, (h2.au i).isSome = true → ((E.shut Z).h (id i)).isSome = true := fun i hi => by
  obtain ⟨ob, hi'⟩ := Option.isSome_iff_exists.1 hi
  obtain ⟨ob', a1, a2, _⟩ := hob i ob hi'
  rw [x8 a2, a1]; rfl
 have acZ : T.aO M ts := sO _ _ hs hid
 have hvs : bG ((E.shut Z).ren id h2.au) ts vs := by
  refine wV hl _ _ ?_
  rw [Ls]
  exact o9 hk _ _ (by rw [he]; exact hs) _ hts
 refine (hcall F M ((E.shut Z).ren id h2.au) vs (hk.ren hob fun _ _ _ _ e => e) rfl hvs acZ (fun i ob hi => ?_) hn).mono ?_
 ·obtain ⟨ob', a1, _, _, _, a5, _⟩ := hget i ob hi
  rw [he] at a1
  exact ⟨(hm i ob' a1).1, sO _ _ a5 (hm i ob' a1).2⟩
 ·rintro e w' ⟨v, t', E', rfl, rfl, hp, hv, hk', hext, hS, h7, h8⟩
  refine ⟨v, t', E', rfl, rfl, hp, hv, hk', ⟨fun g hg => hext.s g (.inl hg), fun g hg => hext.w g (hg.imp .inl id), hext.size, hext.os, hext.tape, hext.output, hext.dr⟩, fun i hi hi2 => ?_, h7, h8⟩
  obtain ⟨a, b, c⟩ := hS i hi hi2
  exact ⟨(zh (hl i a)).1, b, c⟩
theorem ah.VB {P : Program} {f : FuncId} {args args' : List V} {h h2 : Hz} {n : Nat} {K : V → Hz → Prop} {KW : Nat → V → Hz → Prop} (Z : Nat → Prop) (W : Jr Z h h2) (hs : T.dH Z h.au (V.aY args') (V.aY args))
  (H : aT P f (V.aY args') h2.au n fun t hp => ∃ v h', t = v.aH ∧ hp = h'.au ∧ (false = true → h' = h2 ∧ t.free = true) ∧ K v h') : ah P false none f args h n K KW :=
 ⟨.inl (aT.mono (aT.VB Z W hs H) fun _ _ ⟨v, h', a, b, _, d⟩ => ⟨v, h', a, b, (fun e => by cases e), d⟩)⟩
def zi : V := .row 0 true .nil
def RG (name : Str) (fr tt rd wr : Int) : V := .agg [.str name, .int 1, .int fr, .int tt, .int 0, .int 0, zi, zi, zi, zi, .int rd, .int wr, zi, .int 0, zi, zi, zi, .int 0]
def VE : V := .agg [.str iV.name, .int 1, .row 0 false (.strs iV.states), zi, .row 0 false (.strs iV.values), .int 0, zi, .row 0 false (.ints [0]), zi, .yX 19 false [RG [97, 115, 107] 0 1 (-1) (-1), RG [116, 97, 107, 101] 1 2 0 1, RG [108, 101, 97, 118, 101] 2 0 1 0]]
theorem qg {Z : Nat → Prop} {h : Hp} {k : Nat} {l : List T} : T.sub Z h (.sl k false l) (.sl k true l) := ⟨.inl rfl, .inl rfl, fun h => by cases h⟩
theorem kE {Z : Nat → Prop} {h : Hp} {k : Nat} : T.sub Z h (.sl k false []) T.nil := ⟨.inl rfl, .inr rfl, fun h => by cases h⟩
theorem aj.weak {P : Program} {f : FuncId} {args : List V} {a b : V} (S : aj P f args a) (hs : T.sub (fun _ => True) no b.aH a.aH) (hb : b.free = true) : aj P f args b :=
 wU.shut S (fun _ => hs) (V.lZ b hb)
theorem GZ {Z : Nat → Prop} {h : Hp} {name : Str} {fr tt rd wr : Int} : T.sub Z h (G5 (EF name fr tt rd wr)) (RG name fr tt rd wr).aH := by
 refine ⟨aC _, aC _, aC _, aC _, aC _, aC _, kE, kE, kE, kE, aC _, aC _, kE, aC _, kE, kE, kE, aC _, trivial⟩
theorem TF : T.sub (fun _ => True) no (RH iV) VE.aH := by
 refine ⟨aC _, aC _, aC _, kE, aC _, aC _, kE, aC _, kE, ⟨.inr ⟨⟨GZ, GZ, GZ, trivial⟩, fun t ht => ?_⟩, .inl rfl, fun h => h⟩, trivial⟩
 obtain ⟨x, _, rfl⟩ := List.mem_map.1 ht; rfl
theorem sK {Z : Nat → Prop} {h : Hp} {k i ty : Nat} {l : List T} (hz : Z i) (hf : T.dA l = true) (hk : k ≠ fG) (q : h i = some ⟨ty, k, l⟩) : T.sub Z h (.sl k false l) (.own i) := ⟨rfl, hz, hf, hk, ty, q⟩
theorem S.P5 : aj Tryz.prog 51 [] (.dat (.bT iV)) := by
 refine aj.weak (a := VE) ?_ TF rfl
 refine aj.of Bd.mY (by simp) rfl rfl ?_
 conv => whnf
 refine ⟨⟨aC _, aC _, qg, aC _, qg, aC _, aC _, qg, aC _, sK trivial rfl (by decide) rfl, trivial⟩⟩
def abR : V := .agg [.str Bl.name, .int 1, zi, .yX 3 false [.agg [.row 0 true (.ints [2]), .int 2]], zi, zi]
theorem S.G6 : aj Tryz.prog 52 [] (.dat (.prop Bl)) := by
 refine aj.weak (a := abR) ?_ ?_ rfl
 ·refine aj.of Bd.jX (by simp) rfl rfl ?_
  conv => whnf
  exact ⟨⟨aC _, aC _, aC _, sK trivial rfl (by decide) rfl, aC _, aC _, trivial⟩⟩
 ·refine ⟨aC _, aC _, kE, ⟨.inr ⟨⟨⟨qg, aC _, trivial⟩, trivial⟩, fun t ht => ?_⟩, .inl rfl, fun h => h⟩, kE, kE, trivial⟩
  obtain ⟨x, _, rfl⟩ := List.mem_map.1 ht; rfl
theorem Yd : G7 iV 1 [Bc] [] = 0 := by kernel_rfl
theorem VF : FM iV (iV.rules.getD 1 default) [Bc] [] = (0, ⟨0, [0, 1, 1]⟩) := by kernel_rfl
theorem Ye : ccB iV Bl [Bc, uT] [] = true := by kernel_rfl
theorem aaj : ccB iV Bl [Bc] [] = false := by kernel_rfl
theorem NC : SmallK [Bc] := by
 refine ⟨by decide, fun i => ?_⟩
 match i with
 | 0 => exact JV
 | i + 1 => constructor <;> first | (exact (by decide : (0 : Nat) < 2^30)) | (intro i; exact (by decide : (0 : Nat) < 2^30))
theorem VG : SmallK [Bc, uT] := by
 refine ⟨by decide, fun i => ?_⟩
 match i with
 | 0 => exact JV
 | 1 => exact G8
 | i + 2 => constructor <;> first | (exact (by decide : (0 : Nat) < 2^30)) | (intro i; exact (by decide : (0 : Nat) < 2^30))
theorem G9 : SmallK [] := by
 refine ⟨by decide, fun i => ?_⟩
 constructor <;> first | (exact (by decide : (0 : Nat) < 2^30)) | (intro i; exact (by decide : (0 : Nat) < 2^30))
theorem ah.abS {P : Program} {f : FuncId} {args args2 : List V} {res : V} {h : Hz} {n : Nat} {K : V → Hz → Prop} {KW : Nat → V → Hz → Prop} (Z : Nat → Prop) (h2 h3 : Hz) (j : Nat) (S : aj P f args2 res) (W : Jr Z h h2) (W2 : Jr (fun _ => False) h2 h3) (hs2 : T.dH (fun i => i = j) h3.au (V.aY args2) (V.aY args)) (_hr : res.free = true) (hK : K res ((j, none) :: h3)) : ah P false none f args h n K KW := by
 refine ah.VB Z W (bZ _) (aT.VB (fun _ => False) W2 (bZ _) ?_)
 refine wU.abT S (fun i => i = j) hs2 fun h0 h1 h4 => ⟨res, (j, none) :: h3, rfl, ?_, (fun e => by cases e), hK⟩
 show oJ h0 n none = _
 funext i
 rw [bD]
 show h0 i = if i = j then none else h3.au i
 by_cases hi : i = j
 ·rw [if_pos hi, h1 i hi]
 ·rw [if_neg hi, h4 i hi]
def r2V : V := .row 0 true (.ints [2])
def Yf : V := .agg [.yX 0 false [r2V, r2V], zi, zi]
def VH : V := .agg [.yX 0 false [r2V], .row 0 true (.ints [0]), zi]
theorem RI {Z : Nat → Prop} {h : Hp} : T.sub Z h (nU Bc) Yf.aH := by
 refine ⟨⟨.inr ⟨⟨qg, qg, trivial⟩, fun t ht => ?_⟩, .inl rfl, fun h => h⟩, kE, kE, trivial⟩
 obtain ⟨x, _, rfl⟩ := List.mem_map.1 ht; rfl
theorem VI {Z : Nat → Prop} {h : Hp} : T.sub Z h (nU uT) VH.aH := by
 refine ⟨⟨.inr ⟨⟨qg, trivial⟩, fun t ht => ?_⟩, .inl rfl, fun h => h⟩, qg, kE, trivial⟩
 obtain ⟨x, _, rfl⟩ := List.mem_map.1 ht; rfl
theorem ND {Z : Nat → Prop} {h : Hp} {i : Nat} (hz : Z i) (q : h i = some ⟨24, 0, [r2V.aH, r2V.aH]⟩) : T.sub Z h Yf.aH (.agg [.own i, T.nil, T.nil]) := ⟨sK hz rfl (by decide) q, aC _, aC _, trivial⟩
theorem TG {Z : Nat → Prop} {h : Hp} {i : Nat} (hz : Z i) (q : h i = some ⟨24, 0, [r2V.aH]⟩) : T.sub Z h VH.aH (.agg [.own i, .sl 0 true [.int 0], T.nil]) := ⟨sK hz rfl (by decide) q, aC _, aC _, trivial⟩
def Yg (v : V) : OV := .box 59 4 v
def abU : OV := .box 27 11 (.dat (.bT iV))
def abV : OV := .box 30 7 (.dat (.prop Bl))
theorem S.fA : aj Tryz.prog 16 [] (.bool true) := by
 have hS : aj Tryz.prog 19 [.dat (.bT iV), .int 1, .row 4 false (.clauses [Bc]), .row 4 true (.clauses [])] (.fQ [.int 0, .dat (.elem ⟨0, [0, 1, 1]⟩), .int 0]) := by
  have := S.gV iV 1 [Bc] [] false true vX NC G9
  rw [P6, Yd, show (1 : Int).toNat = 1 from rfl, VF] at this
  exact this
 refine aj.of Bd.fA (by simp) rfl rfl ?_
 conv => whnf
 refine ah.pure S.P5 rfl ?_
 conv => whnf
 refine ah.pure S.G6 rfl ?_
 conv => whnf
 refine ah.abS (fun i => i = 3 ∨ i = 8) [(21, some (.row 59 4 .nil [Yf])), (5, some (Yg Yf)), (11, some (Yg VH)), (15, some abU), (16, some abV)] [(21, some (VJ [Bc])), (5, some (Yg (.dat (.clause Bc)))), (11, some (Yg (.dat (.clause uT)))), (15, some abU), (16, some abV)] 21 hS ?_ ?_ ?_ rfl ?_
 ·refine ⟨⟨_, rfl, (by decide), rfl, rfl, ⟨ND (.inl rfl) rfl, trivial⟩, rfl, rfl⟩, ⟨_, rfl, (by decide), rfl, rfl, ⟨ND (.inl rfl) rfl, trivial⟩, rfl, rfl⟩, ⟨_, rfl, (by decide), rfl, rfl, ⟨TG (.inr rfl) rfl, trivial⟩, rfl, rfl⟩, ⟨_, rfl, (by decide), rfl, rfl, bZ _, rfl, rfl⟩, ⟨_, rfl, (by decide), rfl, rfl, bZ _, rfl, rfl⟩, trivial⟩
 ·refine ⟨⟨_, rfl, (fun h => h), rfl, rfl, ⟨RI, trivial⟩, rfl, rfl⟩, ⟨_, rfl, (fun h => h), rfl, rfl, ⟨RI, trivial⟩, rfl, rfl⟩, ⟨_, rfl, (fun h => h), rfl, rfl, ⟨VI, trivial⟩, rfl, rfl⟩, ⟨_, rfl, (fun h => h), rfl, rfl, bZ _, rfl, rfl⟩, ⟨_, rfl, (fun h => h), rfl, rfl, bZ _, rfl, rfl⟩, trivial⟩
 ·exact And.intro (aC _) (And.intro (aC _) (And.intro (ZK rfl rfl) (And.intro ⟨.inl rfl, .inr rfl, fun h => h⟩ trivial)))
 conv => whnf
 refine ah.pure S.P7 rfl ?_
 conv => whnf
 repeat (refine VC.mk (by first | exact id | exact fun h => ⟨h, h⟩) ?_; conv => whnf)
 have hC : aj Tryz.prog 21 [.dat (.elem ⟨0, [0, 1, 1]⟩), .dat (.elem ⟨0, [0, 1, 1]⟩)] (.int 0) := S.nI ⟨0, [0, 1, 1]⟩ ⟨0, [0, 1, 1]⟩ (by decide) (by decide)
 refine ah.JW (fun _ => hC) (fun _ => And.intro (aC _) (And.intro ⟨aC _, qg, trivial⟩ trivial)) rfl rfl ?_
 conv => whnf
 repeat (refine VC.mk id ?_; conv => whnf)
 refine Fork.mk (fun _ => ?_) (fun hx => absurd hx (by decide))
 conv => whnf
 repeat (refine VC.mk (by decide) ?_; conv => whnf)
 have hB : aj Tryz.prog 22 [.dat (.bT iV), .dat (.prop Bl), .row 4 false (.clauses [Bc, uT]), .row 4 true (.clauses [])] (.bool true) := by
  have := S.eX iV Bl [Bc, uT] [] false true vX He VG G9
  rw [Ye] at this; exact this
 refine ah.JW (fun _ => hB) (fun _ => And.intro (aC _) (And.intro (aC _) (And.intro (sK trivial rfl (by decide) rfl) (And.intro ⟨.inl rfl, .inr rfl, fun h => h⟩ trivial)))) rfl rfl ?_
 conv => whnf
 refine .mk (by decide) ?_
 conv => whnf
 refine Fork.mk (fun _ => ?_) (fun hx => absurd hx (by decide))
 conv => whnf
 repeat (refine VC.mk (by decide) ?_; conv => whnf)
 have hB1 : aj Tryz.prog 22 [.dat (.bT iV), .dat (.prop Bl), .row 4 false (.clauses [Bc]), .row 4 true (.clauses [])] (.bool false) := by
  have := S.eX iV Bl [Bc] [] false true vX He NC G9
  rw [aaj] at this; exact this
 refine ah.JW (fun _ => hB1) (fun _ => And.intro (aC _) (And.intro (aC _) (And.intro (sK trivial rfl (by decide) rfl) (And.intro ⟨.inl rfl, .inr rfl, fun h => h⟩ trivial)))) rfl rfl ?_
 conv => whnf
 repeat (refine VC.mk (by decide) ?_; conv => whnf)
 exact ak.bool (by decide)
def NG (k : Clause) : Bool := decide ((k.each.length : Int) > 6)
def Hf (most : Int) (l : List Clause) : Bool := decide ((l.length : Int) > most) || l.any NG
theorem P8 {α : Type} {p : α → Bool} {l : List α} {i : Nat} (d : α) (hi : i < l.length) (h : (l.take i).any p = false) : (l.take (i + 1)).any p = p (l.getD i d) := by
 rw [List.take_add_one, List.any_append, h, Bool.false_or, List.getElem?_eq_getElem hi]
 simp [hi]
theorem NH {α : Type} {p : α → Bool} {l : List α} {i : Nat} (d : α) (hi : i < l.length) (h : p (l.getD i d) = true) : l.any p = true := by
 rw [List.any_eq_true]
 exact ⟨l[i], List.getElem_mem hi, by simpa [hi] using h⟩
theorem Yh {most : Int} {l : List Clause} (h : decide ((l.length : Int) > most) = true) : Hf most l = true := by rw [Hf, h]; rfl
theorem Yi {most : Int} {l : List Clause} (h : l.any NG = true) : Hf most l = true := by rw [Hf, h, Bool.or_true]
theorem S.FN (most : Int) (l : List Clause) (f g : Bool) (hl : l.length < 2^30) (hlk : ∀ i, (l.getD i default).each.length < 2^30) : aj Tryz.prog 15 [.int most, .yX 0 f [.row 4 g (.clauses l)]] (.bool (Hf most l)) := by
 refine aj.of Bd.BL (by simp) (by cases f <;> cases g <;> rfl) rfl ?_
 conv => whnf
 refine aG.times 2 rfl ?_
 conv => whnf
 refine Fork.mk (fun _ => ?_) (fun q => absurd (q.symm.trans ((rfl : decide ((0 : Int) < ([V.row 4 g (.clauses l)].length : Int)) = true))) Bool.false_ne_true)
 conv => whnf
 refine .mk (by omega) ?_
 conv => whnf
 refine ⟨fun h1 => ?_, fun h1 => ?_⟩
 ·replace h1 : decide ((l.length : Int) > most) = true := h1
  conv => whnf
  exact ak.bool (by rw [Yh h1])
 replace h1 : decide ((l.length : Int) > most) = false := h1
 conv => whnf
 refine aG.same [0, 1, 5] (fun i : Nat => [(6, .int i)]) (fun i => i ≤ l.length ∧ (l.take i).any NG = false) (fun i => l.length - i) 0 rfl (by decide) rfl (fun _ => rfl) ⟨by omega, by simp⟩ ⟨⟨_, rfl, rfl⟩, trivial⟩ ?_
 conv => whnf
 refine ⟨rfl, ?_⟩
 rintro i ⟨hi, hall⟩
 conv => whnf
 refine .mk (by omega) ?_
 conv => whnf
 refine ⟨fun h2 => ?_, fun h2 => ?_⟩
 ·have hi' : i < l.length := by simpa using h2
  have hki := hlk i
  conv => whnf
  repeat (refine VC.mk (by first | (omega) | (simp only [Rw.rng] at *; omega)) ?_; conv => whnf)
  refine ⟨fun h3 => ?_, fun h3 => ?_⟩
  ·replace h3 : NG (l.getD i default) = true := h3
   conv => whnf
   exact ak.bool (by rw [Yi (NH default hi' h3)])
  ·replace h3 : NG (l.getD i default) = false := h3
   conv => whnf
   refine .mk (by simp only [okI] at *; omega) ?_
   conv => whnf
   refine ⟨i + 1, ⟨by omega, by rw [P8 default hi' hall]; exact h3⟩, by omega, ⟨⟨_, rfl, rfl⟩, trivial⟩, ?_, rfl⟩
   repeat' (first | exact trivial | exact ⟨_, rfl, rfl⟩ | constructor)
 have hi' : l.length ≤ i := by simpa using h2
 rw [List.take_of_length_le hi'] at hall
 have hml : Hf most l = false := by rw [Hf, h1, hall]; rfl
 conv => whnf
 refine .mk (by simp only [okI] at *; omega) ?_
 conv => whnf
 refine Fork.mk (fun q => absurd (q.symm.trans ((rfl : decide ((1 : Int) < ([V.row 4 g (.clauses l)].length : Int)) = false))).symm Bool.false_ne_true) (fun _ => ?_)
 conv => whnf
 exact ak.bool (by rw [hml])
end Go.Proofs.YtifbibbicplneaaGreatDoor
