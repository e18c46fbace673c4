/-
  The statement of familychecklaw05.CoverMinimizes, from the contract of the law's call.
-/
import Derived.Test.YtpcmibeefiajaaaGreatDoorCards
import Derived.Test.YtpcmibeefiajaaaGreatDoorTie
import Derived.ProofKit
import Derived.Test.YtpcmibeefiajaaaGreatDoorKb
import Derived.Test.YtpcmibeefiajaaaGreatDoorLg
namespace Go.Proofs.YtpcmibeefiajaaaGreatDoor
open Go.Ab Go.Proofs Go.ChangeShapes Go.WideShapes Go.ChangeAt Go.RowKit
set_option maxRecDepth 100000

theorem own : ownKnob Tryz.prog.godebug = none := by kernel_rfl
theorem laidOut : laidOutB Tryz.prog = true := by kernel_rfl
theorem gTab : Tryz.prog.globalNamed "strings.asciiSpace" = some 0 := by kernel_rfl

/-- Shapes. -/
def shElem : Sh := .st [.int, .sl 0 .int]
def shElems : Sh := .sl 3 shElem

theorem bulk_ints {H : Type} : ∀ {es : List (DataW H)}, (∀ x ∈ es, Sh.int.wf x) → ∃ l : List Int, es.map Sh.int.toT = l.map T.int ∧ l.length = Rows.uptoBulkAll es := by
  intro es
  induction es with
  | nil => intro _; exact ⟨[], rfl, rfl⟩
  | cons d r ih =>
    intro h
    obtain ⟨l, h1, h2⟩ := ih fun x hx => h x (by simp [hx])
    obtain ⟨n, rfl, _⟩ := h d (by simp)
    refine ⟨n :: l, by simp [h1, Sh.toT], ?_⟩
    simp only [List.length_cons, Rows.uptoBulkAll, h2, Rows.uptoBulk]; omega
theorem wf_ints {H : Type} {d : DataW H} (h : (Sh.sl 0 .int).wf d) : ∃ l : List Int, (Sh.sl 0 .int).toT d = Go.Ab.ints l ∧ l.length ≤ Rows.uptoBulk d := by
  rcases h with rfl | ⟨es, sp, rfl, h⟩
  · exact ⟨[], rfl, Nat.zero_le _⟩
  · obtain ⟨l, h1, h2⟩ := bulk_ints h
    refine ⟨l, by simp only [Sh.toT, h1], ?_⟩
    simp only [Rows.uptoBulk]; omega
theorem wf_elem {H : Type} {d : DataW H} (h : shElem.wf d) : ∃ e : Elem, shElem.toT d = eElem e ∧ e.counts.length + 1 ≤ Rows.uptoBulk d := by
  obtain ⟨ds, rfl, d0, r0, rfl, ⟨n, rfl, _⟩, d1, r1, rfl, h1, h2⟩ := h
  simp only [Sh.wfL] at h2; subst h2
  obtain ⟨l, a, b⟩ := wf_ints h1
  refine ⟨⟨n, l⟩, ?_, ?_⟩
  · simp only [shElem, Sh.toT, Sh.toTL, T.cells, a, eElem]; rfl
  · simp only [Rows.uptoBulk, Rows.uptoBulkAll]; omega
theorem wf_elems {H : Type} {d : DataW H} (h : shElems.wf d) : ∃ l : List Elem, shElems.toT d = .sl 3 false (l.map eElem) ∧ l.length ≤ Rows.uptoBulk d ∧ ∀ e ∈ l, e.counts.length ≤ Rows.uptoBulk d := by
  rcases h with rfl | ⟨es, sp, rfl, h⟩
  · exact ⟨[], rfl, Nat.zero_le _, fun e he => by cases he⟩
  · have key : ∀ {es : List (DataW H)}, (∀ x ∈ es, shElem.wf x) → ∃ l : List Elem, es.map shElem.toT = l.map eElem ∧ l.length ≤ Rows.uptoBulkAll es ∧ ∀ e ∈ l, e.counts.length ≤ Rows.uptoBulkAll es := by
      intro es
      induction es with
      | nil => intro _; exact ⟨[], rfl, Nat.zero_le _, fun e he => by cases he⟩
      | cons d r ih =>
        intro h
        obtain ⟨l, h1, h2, h3⟩ := ih fun x hx => h x (by simp [hx])
        obtain ⟨e, a, b⟩ := wf_elem (h d (by simp))
        refine ⟨e :: l, by simp [h1, a], ?_, fun x hx => ?_⟩
        · simp only [List.length_cons, Rows.uptoBulkAll]; omega
        · simp only [Rows.uptoBulkAll]
          rcases List.mem_cons.1 hx with rfl | hx
          · omega
          · have := h3 x hx; omega
    obtain ⟨l, a, b, c⟩ := key h
    refine ⟨l, ?_, ?_, fun e he => ?_⟩
    · show T.sl 3 false (es.map shElem.toT) = _
      rw [a]
    · simp only [Rows.uptoBulk]; omega
    · have := c e he; simp only [Rows.uptoBulk]; omega

/-- The table, from what the row lists. -/
theorem table {W : World} (h : laidMetH Tryz.prog Rows.coverMinimizesUptoRow.laid W) : Lib.TabIs Tryz.prog W "strings.asciiSpace" .u8 Lib.asciiSpaceTab :=
  Lib.tabIs_of_head (rest := []) (e := 5) (t := 153) (n := 256) gTab (by kernel_rfl) (by kernel_rfl) (by kernel_rfl) (by kernel_rfl) (by kernel_rfl) (laidMet.tail h)

noncomputable def laidWorld (os : Os) : World :=
  let N := (World.settled Tryz.prog os).heap.size
  let w0 := World.holding Tryz.prog os ⟨#[.cells ([9, 13, 1, 32, 133, 101, 160, 5760, 5600, 8192, 8202, 1, 8232, 8233, 1, 8239, 8287, 48, 12288, 12288, 1].map fun (z : Nat) => Value.int .u16 (z : Int)).toArray 169, .cells #[.slice (some ⟨N, 0, none⟩) 7 7, .slice none 0 0, .int .i64 2] 166], #[], []⟩
  let put (h : Array Obj) (g : Nat) (cs : Array Value) : Array Obj := h.modify g fun
    | .cells _ t frozen => .cells cs t frozen
    | o => o
  let h1 := put w0.heap 0 (Lib.asciiSpaceTab.map fun z => Value.int .u8 z).toArray
  let h2 := put h1 1 #[.pointer (some ⟨N + 1, 0, none⟩)]
  { w0 with heap := h2 }
noncomputable abbrev argsW : Array Value := #[.slice none 0 0, .agg #[.int .i64 0, .slice none 0 0]]
theorem laid_met (os : Os) : laidMet Tryz.prog Rows.coverMinimizesUptoRow.laid ((laidWorld os).forCall (fun _ _ => 0) ⟨#[], argsW, []⟩).memory :=
  laidMet_of_run' 10 (by kernel_rfl) (by kernel_rfl)
theorem witness_row (os : Os) {H : Type} (enc : TypeId × Value → H) :
    (Rows.OpenSpec.upto Rows.coverMinimizesSpec).preRow enc Tryz.prog Tryz.f3 Rows.coverMinimizesUptoRow.domain false Rows.coverMinimizesUptoRow.laid ((laidWorld os).forCall (fun _ _ => 0) ⟨#[], argsW, []⟩).memory argsW := by
  have hw : (DataW.whole enc Tryz.prog ((laidWorld os).forCall (fun _ _ => 0) ⟨#[], argsW, []⟩).memory Tryz.f3.params.toList Rows.coverMinimizesSpec.vars false argsW.toList 8).map (fun x => (x.1, x.2.1)) =
      some ([.nil, .agg [.lit (.int .i64 0), .nil]], []) := by kernel_rfl
  obtain ⟨⟨x1, x2, x3⟩, hx, hx1⟩ := Option.map_eq_some_iff.1 hw
  simp only [Prod.mk.injEq] at hx1
  obtain ⟨rfl, rfl⟩ := hx1
  exact OpenSpec.preRow_of_cond 8 hx (by kernel_rfl) (fun k hk => by cases hk; kernel_rfl) (by kernel_rfl) (laid_met os)

theorem contract (hsane : SpecZ Tryz.prog F.law05_sane [] (.bool true)) {H : Type} {ds : List (DataW H)} (hb : Rows.uptoBulkAll ds ≤ 1048576) (hw : Sh.wfL [shElems, shElem] ds) : APure Tryz.prog 3 (Sh.args [shElems, shElem] ds) (.bool true) := by
  obtain ⟨d0, r0, rfl, h0, d1, r1, rfl, h1, h2⟩ := hw
  simp only [Sh.wfL] at h2; subst h2
  simp only [Rows.uptoBulkAll] at hb
  obtain ⟨l, a1, a2, a3⟩ := wf_elems h0
  obtain ⟨e, b1, b2⟩ := wf_elem h1
  simp only [Sh.args, a1, b1]
  exact S.law05_CoverMinimizes hsane l e false (by omega) (fun x hx => by have := a3 x hx; omega) (by omega)

theorem lifted (hsane : SpecZ Tryz.prog F.law05_sane [] (.bool true)) (os : Os) (started : os.Started) (H : Type) (enc : TypeId × Value → H) (F : Stop.Interp) :
    ReturnsInHanded {} Tryz.checked os 3 .any ((Rows.OpenSpec.upto Rows.coverMinimizesSpec).preRow enc Tryz.prog Tryz.f3 Rows.coverMinimizesUptoRow.domain false Rows.coverMinimizesUptoRow.laid) (((Rows.OpenSpec.upto Rows.coverMinimizesSpec).at F).post enc Tryz.prog Tryz.f3 false true false false) := by
  refine returnsInHanded_of_row (C := Tryz.checked) (s := Rows.OpenSpec.upto Rows.coverMinimizesSpec) own started (by kernel_rfl) Tryz.func3
    (witness_row_atRef (enc := enc) (C := Tryz.checked) false (laidWorld os) argsW rfl (by kernel_rfl) (by kernel_rfl) (by kernel_rfl) (witness_row os enc)) ?_
  intro W base args ds gs before hval hW _ hcond _ hL _ _
  have hgs : gs = [] := by
    obtain ⟨p, q, _, hV, _⟩ := hW
    cases gs with
    | nil => rfl
    | cons _ _ => exact hV.elim
  have hb : Rows.uptoBulkAll ds ≤ 1048576 := by
    have := of_decide_eq_true (hcond _ rfl)
    rw [hgs, List.append_nil] at this; exact this
  obtain ⟨p, q, hA, hV, _⟩ := id hW
  have hlen : ∃ d1 d2, ds = [d1, d2] := by
    rw [Tryz.params3] at hA
    obtain ⟨_, _, d1, d2, _, _, _, hds, _⟩ := trodAll_two hA
    exact ⟨d1, d2, hds⟩
  obtain ⟨d1, d2, hds⟩ := hlen
  refine top_post (shs := [shElems, shElem]) (tb := 4) (s := Rows.coverMinimizesSpec) (gl_of_tab (table hL)) laidOut ?_ rfl (by kernel_rfl) (by kernel_rfl) ?_ (by kernel_rfl) hval hW (fun hw => contract hsane hb hw)
  · rw [Tryz.params3]
    intro t ht
    have : t = 22 ∨ t = 25 := by simpa using ht
    rcases this with rfl | rfl
    · exact ⟨by kernel_rfl, of_decide_eq_true (by kernel_rfl)⟩
    · exact ⟨by kernel_rfl, of_decide_eq_true (by kernel_rfl)⟩
  · rw [hds]; rfl

theorem said (hsane : SpecZ Tryz.prog F.law05_sane [] (.bool true)) : Rows.CoverMinimizesUptoSaid :=
  OpenClaim.holds_of_cond 3 Tryz.f3 rfl rfl rfl rfl rfl rfl rfl ⟨rfl, rfl, rfl, rfl, rfl⟩ rfl rfl rfl rfl rfl (by kernel_rfl) Tryz.func3 (by kernel_rfl)
    (of_decide_eq_true (by kernel_rfl)) (by unfold Func.isWrapper; first | (rw [if_pos (by decide +kernel)]; kernel_rfl) | (rw [if_neg (by decide +kernel)]; exact ⟨rfl, rfl⟩))
    (fun os started H enc _ F => by rw [OpenClaim.pre_eq_preRow]; exact lifted hsane os started H enc F)

theorem plain (f : FuncId) (fn : Func) (hf : Tryz.pinned.checked.prog.funcNamed "familycheck/familychecklaw05.CoverMinimizes" = some f) (hfn : Tryz.pinned.checked.prog.funcs[f]? = some fn) :
    false = Tryz.pinned.checked.prog.looks [] ∧ ∀ (j : Nat) t, fn.params[j]? = some t → Tryz.pinned.checked.prog.wantsStandIn t = false := by
  obtain rfl : f = 3 := Option.some.inj ((show Tryz.prog.funcNamed "familycheck/familychecklaw05.CoverMinimizes" = some 3 by kernel_rfl).symm.trans hf) |>.symm
  obtain rfl : fn = Tryz.f3 := (Option.some.inj (Tryz.func3.symm.trans hfn)).symm
  refine ⟨by kernel_rfl, fun j t ht => ?_⟩
  rw [Tryz.params3] at ht
  have : t = 22 ∨ t = 25 := by simpa using Array.mem_of_getElem? ht
  rcases this with rfl | rfl
  · exact (show Tryz.prog.wantsStandIn 22 = false by kernel_rfl)
  · exact (show Tryz.prog.wantsStandIn 25 = false by kernel_rfl)

theorem cardOf (hsane : SpecZ Tryz.prog F.law05_sane [] (.bool true)) : Rows.CoverMinimizesUptoCardSaid :=
  Claim7.holds_tied_plain_at .later [] _ _ _ _ (said hsane) (fun _ h => by cases h) (by kernel_rfl) (fun _ h => by cases h) coverMinimizesUpto_row_tie rfl ⟨rfl, rfl⟩ (by kernel_rfl) rfl plain (by kernel_rfl)
end Go.Proofs.YtpcmibeefiajaaaGreatDoor
