/-
 What is known of the chapter's first example. No condition.
-/
import Derived.Test.YtgokbcjkbdabnaaGreatDoorNd
namespace Go.Proofs.YtgokbcjkbdabnaaGreatDoor
open Go.Ab Go.Proofs
set_option maxRecDepth 100000
def memo5 (n : Nat) (f : FuncId) (ts : List T) : Option (T × Option Ob) :=
 bif Nat.beq f 78 then (bif T.eqvL ts [mxT] then some (.int 0, none) else none) else
 bif Nat.beq f 49 then (bif T.eqvL ts [mxT, exT] then some (.int 0, none) else none) else
 bif Nat.beq f 50 then (bif T.eqvL ts [mxT] then some (.tup [.agg [.bool false, .bool true, .bool false, .bool false, .bool true], .int 0], none) else none) else
 bif Nat.beq f 45 then (bif T.eqvL ts [mxT, exT] then some (.own n, some ⟨29, 3, badL⟩) else none) else orc5 n f ts
theorem ofRun {f : FuncId} {ts : List T} {t : Nat → T} {o : Option Ob} (hts : T.freeL ts = true) (h : ∀ n, yP K5 (yf K5 39) false n f ts = some (t n, o)) : AFn Tryz.prog f ts t o ∧ ∀ n, o = none → (t n).free = true := by
 have key : ∀ n, ∃ tf, tf n = t n ∧ AFn Tryz.prog f ts tf o ∧ (o = none → (t n).free = true) ∧ (false = true → o = none) := fun n => by
  have := h n
  rw [yP_eq, yf_eq] at this
  exact runP_ok K5_ok (xf_ok K5_ok 39) hts this
 refine ⟨?_, fun n => (key n).choose_spec.2.2.1⟩
 have A : ∀ n, AFn Tryz.prog f ts (key n).choose o := fun n => (key n).choose_spec.2.1
 have E : ∀ n, (key n).choose n = t n := fun n => (key n).choose_spec.1
 refine ⟨hts, fun n => ?_, (A 0).ob, (A 0).nm, fun n => ?_⟩
 ·rw [← E n]; exact (A n).ids n
 ·have := (A n).call n
  rw [E n] at this; exact this
theorem APure.ofOne {P : Program} {f : FuncId} {ts : List T} {tf : Nat → T} {n : Nat} {t : T} (H : AFn P f ts tf none) (e : tf n = t) (ht : t.free = true) : APure P f ts t := by
 refine ⟨H.free, fun _ => T.ids_weaken (fun _ h => h.elim) _ (free_ids ht), (fun _ h => by cases h), (fun _ h => by cases h), fun k => ?_⟩
 obtain ⟨_, hcl, hcall⟩ := H.call n
 refine ⟨⟨_, _, rfl, rfl⟩, hcl, fun F M E vs hk he hts hid hm hn => (hcall F (fun _ => False) E vs hk he hts (freeL_ids H.free) (no_ids _) (fun h => h)).mono ?_⟩
 rintro e' w' ⟨v, t'', E', rfl, rfl, ⟨rfl, hh⟩, hv, hk', hext, hS, _, _⟩
 subst e
 have hno : E'.h = no := hh
 refine ⟨v, tf n, E', rfl, rfl, ⟨rfl, hh⟩, hv, hk', hext, fun i _ hi => ?_, T.ids_weaken (fun _ h => h.elim) _ (free_ids ht), ?_⟩
 ·rw [hno] at hi; cases hi
 ·rw [hno]; exact no_ids _
theorem memo5_ok : OrcOk Tryz.prog memo5 := by
 intro n f ts t o h
 have pure : ∀ {k : FuncId} {us : List T} {u : T}, T.freeL us = true → (yP K5 (yf K5 39) false 0 k us = some (u, none)) → f = k → (bif T.eqvL ts us then some (u, none) else none) = some (t, o) → ∃ tf : Nat → T, tf n = t ∧ AFn Tryz.prog f ts tf o ∧ (o = none → t.free = true) := by
  intro k us u hu hr e h
  subst e
  cases hb : T.eqvL ts us with
  | false => rw [hb] at h; cases h
  | true =>
   rw [hb] at h; cases h
   rw [T.eqvL_ok _ _ hb]
   rw [yP_eq, yf_eq] at hr
   obtain ⟨tf, h1, h2, h3, _⟩ := runP_ok K5_ok (xf_ok K5_ok 39) hu hr
   exact ⟨fun _ => t, rfl, APure.ofOne h2 h1 (h3 rfl), h3⟩
 unfold memo5 at h
 cases h1 : Nat.beq f 78 with
 | true => rw [h1] at h; exact pure (by kernel_rfl) m54 (Nat.eq_of_beq_eq_true h1) h
 | false =>
 rw [h1] at h
 cases h2 : Nat.beq f 49 with
 | true => rw [h2] at h; exact pure (by kernel_rfl) m37 (Nat.eq_of_beq_eq_true h2) h
 | false =>
 rw [h2] at h
 cases h3 : Nat.beq f 50 with
 | true => rw [h3] at h; exact pure (by kernel_rfl) m38 (Nat.eq_of_beq_eq_true h3) h
 | false =>
 rw [h3] at h
 cases h4 : Nat.beq f 45 with
 | true =>
  rw [h4] at h
  have := Nat.eq_of_beq_eq_true h4; subst this
  simp only [cond_true, cond_false] at h
  cases hb : T.eqvL ts [mxT, exT] with
  | false => rw [hb] at h; cases h
  | true =>
   rw [hb] at h; cases h
   rw [T.eqvL_ok _ _ hb]
   obtain ⟨a, b⟩ := ofRun (t := fun n => .own n) (by kernel_rfl) m28
   exact ⟨fun n => .own n, rfl, a, fun h => by cases h⟩
 | false => rw [h4] at h; exact orc5_ok n f ts t o h
def K6 : Know := ⟨xtab, memo5, fun _ _ _ _ => none, wrs, 10000⟩
theorem K6_ok : KOk Tryz.prog K6 := ⟨xtab_ok, memo5_ok, fun n f ts h t h' e => by cases e⟩
end Go.Proofs.YtgokbcjkbdabnaaGreatDoor
