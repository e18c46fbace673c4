/-
 Arguments of the statements as plain data: what a reading of bounded bulk gives. No condition.
-/
import Derived.Test.YtgokbcjkbdabnaaGreatDoorCards
import Derived.Test.YtgokbcjkbdabnaaGreatDoorTie
import Derived.ProofKit
import Derived.Test.YtgokbcjkbdabnaaGreatDoorVa
import Derived.Test.YtgokbcjkbdabnaaGreatDoorLg
import Derived.Test.YtgokbcjkbdabnaaGreatDoorGa
namespace Go.Proofs.YtgokbcjkbdabnaaGreatDoor
open Go.Ab Go.Proofs
set_option maxRecDepth 100000
section
variable {H : Type}
theorem wf_list {s : Sh} {α : Type} {f : α → T} {Q : α → Prop} {sz : α → Nat} {N : Nat} (hs : ∀ d : DataW H, s.wf d → Rows.uptoBulk d ≤ N → ∃ a, s.toT d = f a ∧ Q a ∧ sz a ≤ Rows.uptoBulk d ∧ 1 ≤ Rows.uptoBulk d) :
  ∀ {es : List (DataW H)}, (∀ x ∈ es, s.wf x) → Rows.uptoBulkAll es ≤ N → ∃ l : List α, es.map s.toT = l.map f ∧ l.length ≤ Rows.uptoBulkAll es ∧ (l.map sz).sum ≤ Rows.uptoBulkAll es ∧ ∀ a ∈ l, Q a := by
 intro es
 induction es with
 | nil => intro _ _; exact ⟨[], rfl, Nat.zero_le _, Nat.zero_le _, fun a h => by cases h⟩
 | cons d r ih =>
  intro h hb
  simp only [Rows.uptoBulkAll] at hb ⊢
  obtain ⟨l, h1, h2, h3, h4⟩ := ih (fun x hx => h x (by simp [hx])) (by omega)
  obtain ⟨a, g1, g2, g3, g4⟩ := hs d (h d (by simp)) (by omega)
  refine ⟨a :: l, by simp [h1, g1], by simp only [List.length_cons]; omega, by simp only [List.map_cons, List.sum_cons]; omega, fun x hx => ?_⟩
  rcases List.mem_cons.1 hx with rfl | hx
  ·exact g2
  ·exact h4 x hx
theorem wf_row {s : Sh} {k : Nat} {α : Type} {f : α → T} {Q : α → Prop} {sz : α → Nat} {N : Nat} (hs : ∀ d : DataW H, s.wf d → Rows.uptoBulk d ≤ N → ∃ a, s.toT d = f a ∧ Q a ∧ sz a ≤ Rows.uptoBulk d ∧ 1 ≤ Rows.uptoBulk d)
  {d : DataW H} (h : (Sh.sl k s).wf d) (hb : Rows.uptoBulk d ≤ N) : ∃ l : List α, (Sh.sl k s).toT d = .sl k false (l.map f) ∧ l.length + 1 ≤ Rows.uptoBulk d ∧ (l.map sz).sum ≤ Rows.uptoBulk d ∧ ∀ a ∈ l, Q a := by
 rcases h with rfl | ⟨es, sp, rfl, h⟩
 ·exact ⟨[], rfl, by simp [Rows.uptoBulk], Nat.zero_le _, fun a h => by cases h⟩
 ·simp only [Rows.uptoBulk] at hb ⊢
  obtain ⟨l, h1, h2, h3, h4⟩ := wf_list hs h (by omega)
  refine ⟨l, ?_, by omega, by omega, h4⟩
  show T.sl k false (es.map s.toT) = _
  rw [h1]
theorem wf_int {d : DataW H} {N : Nat} (h : Sh.int.wf d) (_ : Rows.uptoBulk d ≤ N) : ∃ n : Int, Sh.int.toT d = T.int n ∧ True ∧ 0 ≤ Rows.uptoBulk d ∧ 1 ≤ Rows.uptoBulk d := by
 obtain ⟨n, rfl, _⟩ := h
 exact ⟨n, rfl, trivial, Nat.zero_le _, Nat.le_refl _⟩
theorem wf_str {d : DataW H} {N : Nat} (h : Sh.str.wf d) (_ : Rows.uptoBulk d ≤ N) : ∃ s : Str, Sh.str.toT d = eS s ∧ s.length + 1 ≤ Rows.uptoBulk d ∧ 0 ≤ Rows.uptoBulk d ∧ 1 ≤ Rows.uptoBulk d := by
 obtain ⟨l, rfl⟩ := h
 exact ⟨l, rfl, Nat.le_refl _, Nat.zero_le _, Nat.succ_le_succ (Nat.zero_le _)⟩
theorem wf_str' {d : DataW H} {N : Nat} (h : Sh.str.wf d) (hb : Rows.uptoBulk d ≤ N) : ∃ s : Str, Sh.str.toT d = eS s ∧ s.length < N ∧ 0 ≤ Rows.uptoBulk d ∧ 1 ≤ Rows.uptoBulk d := by
 obtain ⟨s, h1, h2, h3, h4⟩ := wf_str h hb
 exact ⟨s, h1, by omega, h3, h4⟩
theorem wf_ints {d : DataW H} {N : Nat} (h : (Sh.sl 0 .int).wf d) (hb : Rows.uptoBulk d ≤ N) : ∃ l : List Int, (Sh.sl 0 .int).toT d = Go.Ab.ints l ∧ l.length < N := by
 obtain ⟨l, h1, h2, _⟩ := wf_row (f := T.int) (Q := fun _ => True) (sz := fun _ => 0) (fun d h hb => wf_int h hb) h hb
 exact ⟨l, h1, by omega⟩
theorem wf_strs {d : DataW H} {N : Nat} (h : (Sh.sl 0 .str).wf d) (hb : Rows.uptoBulk d ≤ N) : ∃ l : List Str, (Sh.sl 0 .str).toT d = strs l ∧ l.length < N ∧ ∀ s ∈ l, s.length < N := by
 obtain ⟨l, h1, h2, _, h4⟩ := wf_row (f := eS) (Q := fun s => s.length < N) (sz := fun _ => 0) (fun d h hb => wf_str' h hb) h hb
 exact ⟨l, h1, by omega, h4⟩
def shElem : Sh := .st [.int, .sl 0 .int]
def shLin : Sh := .st [.int, .int, .int, .int]
def shThr : Sh := .st [.int, .int, shLin]
def shRule : Sh := .st [.str, .int, .int, .int, .int, .int, .sl 0 .int, .sl 7 shThr, .sl 0 .int, .sl 0 .int, .int, .int, .sl 0 .int, .int, .sl 0 .int, .sl 0 .int, .sl 0 .int, .int]
def shProt : Sh := .st [.str, .int, .sl 0 .str, .sl 0 .str, .sl 0 .str, .int, .sl 5 shLin, .sl 0 .int, .sl 0 .int, .sl 19 shRule]
theorem wf_elem {d : DataW H} {N : Nat} (h : shElem.wf d) (hb : Rows.uptoBulk d ≤ N) : ∃ e : Elem, shElem.toT d = eElem e ∧ e.counts.length < N ∧ 0 ≤ Rows.uptoBulk d ∧ 1 ≤ Rows.uptoBulk d := by
 obtain ⟨ds, rfl, d0, r0, rfl, ⟨n, rfl, _⟩, d1, r1, rfl, h1, h2⟩ := h
 simp only [Sh.wfL] at h2; subst h2
 simp only [Rows.uptoBulk, Rows.uptoBulkAll] at hb ⊢
 obtain ⟨l, a, b⟩ := wf_ints (N := N) h1 (by omega)
 refine ⟨⟨n, l⟩, ?_, b, by omega, by omega⟩
 simp only [shElem, Sh.toT, Sh.toTL, T.cells, a, eElem]; rfl
theorem wf_lin {d : DataW H} {N : Nat} (h : shLin.wf d) (_ : Rows.uptoBulk d ≤ N) : ∃ x : Lin, shLin.toT d = eLin x ∧ True ∧ 0 ≤ Rows.uptoBulk d ∧ 1 ≤ Rows.uptoBulk d := by
 obtain ⟨ds, rfl, d0, r0, rfl, ⟨a, rfl, _⟩, d1, r1, rfl, ⟨b, rfl, _⟩, d2, r2, rfl, ⟨c, rfl, _⟩, d3, r3, rfl, ⟨e, rfl, _⟩, h2⟩ := h
 simp only [Sh.wfL] at h2; subst h2
 exact ⟨⟨a, b, c, e⟩, rfl, trivial, Nat.zero_le _, by simp [Rows.uptoBulk]⟩
theorem wf_thr {d : DataW H} {N : Nat} (h : shThr.wf d) (hb : Rows.uptoBulk d ≤ N) : ∃ x : Thr, shThr.toT d = eThr x ∧ True ∧ 0 ≤ Rows.uptoBulk d ∧ 1 ≤ Rows.uptoBulk d := by
 obtain ⟨ds, rfl, d0, r0, rfl, ⟨a, rfl, _⟩, d1, r1, rfl, ⟨b, rfl, _⟩, d2, r2, rfl, h3, h2⟩ := h
 simp only [Sh.wfL] at h2; subst h2
 simp only [Rows.uptoBulk, Rows.uptoBulkAll] at hb ⊢
 obtain ⟨x, hx, _⟩ := wf_lin (N := N) h3 (by omega)
 refine ⟨⟨a, b, x⟩, ?_, trivial, by omega, by omega⟩
 simp only [shThr, Sh.toT, Sh.toTL, hx]; rfl
theorem wf_rule {d : DataW H} {N : Nat} (h : shRule.wf d) (hb : Rows.uptoBulk d ≤ N) (hN : N ≤ 2^20) : ∃ x : Rule, shRule.toT d = eRule x ∧ SmallR x ∧ x.guards.length ≤ Rows.uptoBulk d ∧ 1 ≤ Rows.uptoBulk d := by
 obtain ⟨ds, rfl, d0, r0, rfl, w0, d1, r1, rfl, ⟨a1, rfl, _⟩, d2, r2, rfl, ⟨a2, rfl, _⟩, d3, r3, rfl, ⟨a3, rfl, _⟩, d4, r4, rfl, ⟨a4, rfl, _⟩, d5, r5, rfl, ⟨a5, rfl, _⟩, d6, r6, rfl, w6, d7, r7, rfl, w7, d8, r8, rfl, w8, d9, r9, rfl, w9, d10, r10, rfl, ⟨a10, rfl, _⟩, d11, r11, rfl, ⟨a11, rfl, _⟩, d12, r12, rfl, w12, d13, r13, rfl, ⟨a13, rfl, _⟩, d14, r14, rfl, w14, d15, r15, rfl, w15, d16, r16, rfl, w16, d17, r17, rfl, ⟨a17, rfl, _⟩, h2⟩ := h
 simp only [Sh.wfL] at h2; subst h2
 simp only [Rows.uptoBulk, Rows.uptoBulkAll] at hb ⊢
 obtain ⟨s, e0, _⟩ := wf_str (N := N) w0 (by omega)
 obtain ⟨l6, e6, b6⟩ := wf_ints (N := N) w6 (by omega)
 obtain ⟨l7, e7, b7, _⟩ := wf_row (f := eThr) (Q := fun _ => True) (sz := fun _ => 0) (N := N) (fun d h hb => wf_thr h hb) w7 (by omega)
 obtain ⟨l8, e8, b8⟩ := wf_ints (N := N) w8 (by omega)
 obtain ⟨l9, e9, b9⟩ := wf_ints (N := N) w9 (by omega)
 obtain ⟨l12, e12, b12⟩ := wf_ints (N := N) w12 (by omega)
 obtain ⟨l14, e14, b14⟩ := wf_ints (N := N) w14 (by omega)
 obtain ⟨l15, e15, b15⟩ := wf_ints (N := N) w15 (by omega)
 obtain ⟨l16, e16, b16⟩ := wf_ints (N := N) w16 (by omega)
 refine ⟨⟨s, a1, a2, a3, a4, a5, l6, l7, l8, l9, a10, a11, l12, a13, l14, l15, l16, a17⟩, ?_, ⟨by show l6.length < _; omega, by show l7.length < _; omega, by show l8.length < _; omega, by show l9.length < _; omega, by show l12.length < _; omega, by show l14.length < _; omega, by show l15.length < _; omega, by show l16.length < _; omega⟩, by show l7.length ≤ _; omega, by omega⟩
 simp only [shRule, Sh.toT, Sh.toTL] at e0 e6 e7 e8 e9 e12 e14 e15 e16 ⊢
 simp only [e0, e6, e7, e8, e9, e12, e14, e15, e16]; rfl
theorem smallR_default : SmallR default := ⟨by decide, by decide, by decide, by decide, by decide, by decide, by decide, by decide⟩
theorem wf_prot {d : DataW H} {N : Nat} (h : shProt.wf d) (hb : Rows.uptoBulk d ≤ N) (hN : N ≤ 2^20) : ∃ x : Prot, shProt.toT d = eProt x ∧ SmallP x := by
 obtain ⟨ds, rfl, d0, r0, rfl, w0, d1, r1, rfl, ⟨a1, rfl, _⟩, d2, r2, rfl, w2, d3, r3, rfl, w3, d4, r4, rfl, w4, d5, r5, rfl, ⟨a5, rfl, _⟩, d6, r6, rfl, w6, d7, r7, rfl, w7, d8, r8, rfl, w8, d9, r9, rfl, w9, h2⟩ := h
 simp only [Sh.wfL] at h2; subst h2
 simp only [Rows.uptoBulk, Rows.uptoBulkAll] at hb
 obtain ⟨s, e0, _⟩ := wf_str (N := N) w0 (by omega)
 obtain ⟨l2, e2, b2, _⟩ := wf_strs (N := N) w2 (by omega)
 obtain ⟨l3, e3, b3, _⟩ := wf_strs (N := N) w3 (by omega)
 obtain ⟨l4, e4, b4, _⟩ := wf_strs (N := N) w4 (by omega)
 obtain ⟨l6, e6, b6, _⟩ := wf_row (f := eLin) (Q := fun _ => True) (sz := fun _ => 0) (N := N) (fun d h hb => wf_lin h hb) w6 (by omega)
 obtain ⟨l7, e7, b7⟩ := wf_ints (N := N) w7 (by omega)
 obtain ⟨l8, e8, b8⟩ := wf_ints (N := N) w8 (by omega)
 obtain ⟨l9, e9, b9, c9, q9⟩ := wf_row (f := eRule) (Q := SmallR) (sz := fun r => r.guards.length) (N := N) (fun d h hb => wf_rule h hb hN) w9 (by omega)
 refine ⟨⟨s, a1, l2, l3, l4, a5, l6, l7, l8, l9⟩, ?_, ⟨by show l2.length < _; omega, by show l3.length < _; omega, by show l4.length < _; omega, by show l6.length < _; omega, by show l7.length < _; omega, by show l8.length < _; omega, by show l9.length < _; omega, fun i => ?_, ?_⟩⟩
 ·simp only [shProt, Sh.toT, Sh.toTL] at e0 e2 e3 e4 e6 e7 e8 e9 ⊢
  simp only [e0, e2, e3, e4, e6, e7, e8, e9]; rfl
 ·show SmallR (l9.getD i default)
  rw [List.getD_eq_getElem?_getD]
  cases hg : l9[i]? with
  | none => exact smallR_default
  | some x => exact q9 x (List.mem_of_getElem? hg)
 ·show (l9.flatMap Rule.guards).length < _
  rw [List.length_flatMap]
  have : (l9.map fun a => a.guards.length).sum ≤ Rows.uptoBulk d9 := c9
  omega
end
section
variable {H : Type}
def shCnt : Sh := .st [.sl 0 .int, .int]
def shProp : Sh := .st [.str, .int, .sl 0 .int, .sl 3 shCnt, .sl 0 .int, .sl 0 .int]
theorem wf_cnt {d : DataW H} {N : Nat} (h : shCnt.wf d) (hb : Rows.uptoBulk d ≤ N) : ∃ x : Cnt, shCnt.toT d = eCnt x ∧ x.states.length < N ∧ 0 ≤ Rows.uptoBulk d ∧ 1 ≤ Rows.uptoBulk d := by
 obtain ⟨ds, rfl, d0, r0, rfl, w0, d1, r1, rfl, ⟨a1, rfl, _⟩, h2⟩ := h
 simp only [Sh.wfL] at h2; subst h2
 simp only [Rows.uptoBulk, Rows.uptoBulkAll] at hb ⊢
 obtain ⟨l, e0, b0⟩ := wf_ints (N := N) w0 (by omega)
 refine ⟨⟨l, a1⟩, ?_, b0, by omega, by omega⟩
 simp only [shCnt, Sh.toT, Sh.toTL] at e0 ⊢
 simp only [e0]; rfl
theorem wf_prop {d : DataW H} {N : Nat} (h : shProp.wf d) (hb : Rows.uptoBulk d ≤ N) (hN : N ≤ 2^20) : ∃ x : Prop', shProp.toT d = eProp x ∧ SmallQ x := by
 obtain ⟨ds, rfl, d0, r0, rfl, w0, d1, r1, rfl, ⟨a1, rfl, _⟩, d2, r2, rfl, w2, d3, r3, rfl, w3, d4, r4, rfl, w4, d5, r5, rfl, w5, h2⟩ := h
 simp only [Sh.wfL] at h2; subst h2
 simp only [Rows.uptoBulk, Rows.uptoBulkAll] at hb
 obtain ⟨s, e0, _⟩ := wf_str (N := N) w0 (by omega)
 obtain ⟨l2, e2, b2⟩ := wf_ints (N := N) w2 (by omega)
 obtain ⟨l3, e3, b3, _, q3⟩ := wf_row (f := eCnt) (Q := fun x => x.states.length < N) (sz := fun _ => 0) (N := N) (fun d h hb => wf_cnt h hb) w3 (by omega)
 obtain ⟨l4, e4, b4⟩ := wf_ints (N := N) w4 (by omega)
 obtain ⟨l5, e5, b5⟩ := wf_ints (N := N) w5 (by omega)
 refine ⟨⟨s, a1, l2, l3, l4, l5⟩, ?_, ⟨by show l2.length < _; omega, by show l3.length < _; omega, by show l4.length < _; omega, by show l5.length < _; omega, fun i => ?_⟩⟩
 ·simp only [shProp, shCnt, Sh.toT, Sh.toTL] at e0 e2 e3 e4 e5 ⊢
  simp only [e0, e2, e3, e4, e5]; rfl
 ·show (l3.getD i default).states.length < _
  rw [List.getD_eq_getElem?_getD]
  cases hg : l3[i]? with
  | none => show ([] : List Int).length < 2^30; decide
  | some x => have := q3 x (List.mem_of_getElem? hg); show x.states.length < 2^30; omega
end
end Go.Proofs.YtgokbcjkbdabnaaGreatDoor
namespace Go.Proofs.YtgokbcjkbdabnaaGreatDoor
open Go.Ab Go.Proofs Go.ChangeShapes Go.WideShapes Go.ChangeAt Go.RowKit
set_option maxRecDepth 100000
theorem own : ownKnob Tryz.prog.godebug = none := by kernel_rfl
theorem laidOut : laidOutB Tryz.prog = true := by kernel_rfl
theorem gTab : Tryz.prog.globalNamed "strings.asciiSpace" = some 0 := by kernel_rfl
theorem trod_len {H : Type} {enc : TypeId × Value → H} {P : Program} {w : World} {base : Nat} {spare held} : ∀ {ts : List TypeId} {vs : List Value} {ds : List (DataW H)} {ps : List MemPlace}, DataW.TrodAll enc P w base spare held ts vs ds ps → ds.length = ts.length := by
 intro ts
 induction ts with
 | nil => intro vs ds ps h; obtain ⟨_, rfl, _⟩ := trodAll_nil h; rfl
 | cons t r ih =>
  intro vs ds ps h
  obtain ⟨_, _, _, _, _, _, _, rfl, _, _, h2⟩ := trodAll_cons h
  simp [ih h2]
theorem table {W : World} (h : laidMetH Tryz.prog Rows.coverBadUptoRow.laid W) : Lib.TabIs Tryz.prog W "strings.asciiSpace" .u8 Lib.asciiSpaceTab :=
 Lib.tabIs_of_head (rest := []) (e := 5) (t := 165) (n := 256) gTab (by kernel_rfl) (by kernel_rfl) (by kernel_rfl) (by kernel_rfl) (by kernel_rfl) (laidMet.tail h)
noncomputable def laidWorld (os : Os) : World :=
 let N := (World.settled Tryz.prog os).heap.size
 let w0 := World.holding Tryz.prog os ⟨#[.cells ([9, 13, 1, 32, 133, 101, 160, 5760, 5600, 8192, 8202, 1, 8232, 8233, 1, 8239, 8287, 48, 12288, 12288, 1].map fun (z : Nat) => Value.int .u16 (z : Int)).toArray 186, .cells #[.slice (some ⟨N, 0, none⟩) 7 7, .slice none 0 0, .int .i64 2] 183], #[], []⟩
 let put (h : Array Obj) (g : Nat) (cs : Array Value) : Array Obj := h.modify g fun
  | .cells _ t frozen => .cells cs t frozen
  | o => o
 let h1 := put w0.heap 0 (Lib.asciiSpaceTab.map fun z => Value.int .u8 z).toArray
 let h2 := put h1 1 #[.pointer (some ⟨N + 1, 0, none⟩)]
 { w0 with heap := h2 }
noncomputable abbrev argsW : Array Value := #[.agg #[.string ByteArray.empty, .int .i64 0, .slice none 0 0, .slice none 0 0, .slice none 0 0, .int .i64 0, .slice none 0 0, .slice none 0 0, .slice none 0 0, .slice none 0 0], .agg #[.string ByteArray.empty, .int .i64 0, .slice none 0 0, .slice none 0 0, .slice none 0 0, .slice none 0 0], .agg #[.int .i64 0, .slice none 0 0]]
theorem laid_met (os : Os) : laidMet Tryz.prog Rows.coverBadUptoRow.laid ((laidWorld os).forCall (fun _ _ => 0) ⟨#[], argsW, []⟩).memory :=
 laidMet_of_run' 10 (by kernel_rfl) (by kernel_rfl)
theorem witness_row (os : Os) {H : Type} (enc : TypeId × Value → H) :
  (Rows.OpenSpec.upto Rows.coverBadSpec).preRow enc Tryz.prog Tryz.f6 Rows.coverBadUptoRow.domain false Rows.coverBadUptoRow.laid ((laidWorld os).forCall (fun _ _ => 0) ⟨#[], argsW, []⟩).memory argsW := by
 have hw : (DataW.whole enc Tryz.prog ((laidWorld os).forCall (fun _ _ => 0) ⟨#[], argsW, []⟩).memory Tryz.f6.params.toList Rows.coverBadSpec.vars false argsW.toList 8).map (fun x => (x.1, x.2.1)) =
   some ([.agg [.lit (.string []), .lit (.int .i64 0), .nil, .nil, .nil, .lit (.int .i64 0), .nil, .nil, .nil, .nil], .agg [.lit (.string []), .lit (.int .i64 0), .nil, .nil, .nil, .nil], .agg [.lit (.int .i64 0), .nil]], []) := by kernel_rfl
 obtain ⟨⟨x1, x2, x3⟩, hx, hx1⟩ := Option.map_eq_some_iff.1 hw
 simp only [Prod.mk.injEq] at hx1
 obtain ⟨rfl, rfl⟩ := hx1
 exact OpenSpec.preRow_of_cond 8 hx (by kernel_rfl) (fun k hk => by cases hk; kernel_rfl) (by kernel_rfl) (laid_met os)
theorem contract (hsane : SpecZ Tryz.prog F.law05_sane [] (.bool true)) {H : Type} {ds : List (DataW H)} (hb : Rows.uptoBulkAll ds ≤ 1048576) (hw : Sh.wfL [shProt, shProp, shElem] ds) : APure Tryz.prog 6 (Sh.args [shProt, shProp, shElem] ds) (.bool true) := by
 obtain ⟨d0, r0, rfl, h0, d1, r1, rfl, h1, d2, r2, rfl, h2, hz⟩ := hw
 simp only [Sh.wfL] at hz; subst hz
 simp only [Rows.uptoBulkAll] at hb
 obtain ⟨x0, e0, s0⟩ := wf_prot (N := 1048576) h0 (by omega) (by omega)
 obtain ⟨x1, e1, s1⟩ := wf_prop (N := 1048576) h1 (by omega) (by omega)
 obtain ⟨x2, e2, s2, _⟩ := wf_elem (N := 1048576) h2 (by omega)
 simp only [Sh.args, e0, e1, e2]
 exact S.law05_CoverBad hsane x0 x1 x2 s0 s1 (by omega)
theorem lifted (hsane : SpecZ Tryz.prog F.law05_sane [] (.bool true)) (os : Os) (started : os.Started) (H : Type) (enc : TypeId × Value → H) (F : Stop.Interp) :
  ReturnsInHanded {} Tryz.checked os 6 .any ((Rows.OpenSpec.upto Rows.coverBadSpec).preRow enc Tryz.prog Tryz.f6 Rows.coverBadUptoRow.domain false Rows.coverBadUptoRow.laid) (((Rows.OpenSpec.upto Rows.coverBadSpec).at F).post enc Tryz.prog Tryz.f6 false true false false) := by
 refine returnsInHanded_of_row (C := Tryz.checked) (s := Rows.OpenSpec.upto Rows.coverBadSpec) own started (by kernel_rfl) Tryz.func6
  (witness_row_atRef (enc := enc) (C := Tryz.checked) false (laidWorld os) argsW rfl (by kernel_rfl) (by kernel_rfl) (by kernel_rfl) (witness_row os enc)) ?_
 intro W base args ds gs before hval hW _ hcond _ hL _ _
 have hgs : gs = [] := by
  obtain ⟨p, q, _, hV, _⟩ := hW
  cases gs with
  | nil => rfl
  | cons _ _ => exact hV.elim
 have hb : Rows.uptoBulkAll ds ≤ 1048576 := by
  have := of_decide_eq_true (hcond _ rfl)
  rw [hgs, List.append_nil] at this; exact this
 obtain ⟨p, q, hA, hV, _⟩ := id hW
 have hlen : ds.length = 3 := by
  rw [Tryz.params6] at hA
  exact trod_len hA
 obtain ⟨d0, d1, d2, hds⟩ : ∃ d0 d1 d2, ds = [d0, d1, d2] := by
  rcases ds with _ | ⟨d0, _ | ⟨d1, _ | ⟨d2, _ | ⟨d3, r⟩⟩⟩⟩ <;> simp at hlen
  exact ⟨d0, d1, d2, rfl⟩
 refine top_post (shs := [shProt, shProp, shElem]) (tb := 4) (s := Rows.coverBadSpec) (gl_of_tab (table hL)) laidOut ?_ rfl (by kernel_rfl) (by kernel_rfl) ?_ (by kernel_rfl) hval hW (fun hw => contract hsane hb hw)
 ·rw [Tryz.params6]
  intro t ht
  have : t = 27 ∨ t = 49 ∨ t = 29 := by simpa using ht
  rcases this with rfl | rfl | rfl
  ·exact ⟨by kernel_rfl, of_decide_eq_true (by kernel_rfl)⟩
  ·exact ⟨by kernel_rfl, of_decide_eq_true (by kernel_rfl)⟩
  ·exact ⟨by kernel_rfl, of_decide_eq_true (by kernel_rfl)⟩
 ·rw [hds]; rfl
theorem said (hsane : SpecZ Tryz.prog F.law05_sane [] (.bool true)) : Rows.CoverBadUptoSaid :=
 OpenClaim.holds_of_cond 6 Tryz.f6 rfl rfl rfl rfl rfl rfl rfl ⟨rfl, rfl, rfl, rfl, rfl⟩ rfl rfl rfl rfl rfl (by kernel_rfl) Tryz.func6 (by kernel_rfl)
  (of_decide_eq_true (by kernel_rfl)) (by unfold Func.isWrapper; first | (rw [if_pos (by decide +kernel)]; kernel_rfl) | (rw [if_neg (by decide +kernel)]; exact ⟨rfl, rfl⟩))
  (fun os started H enc _ F => by rw [OpenClaim.pre_eq_preRow]; exact lifted hsane os started H enc F)
theorem plain (f : FuncId) (fn : Func) (hf : Tryz.pinned.checked.prog.funcNamed "familycheck/familychecklaw05.CoverBad" = some f) (hfn : Tryz.pinned.checked.prog.funcs[f]? = some fn) :
  false = Tryz.pinned.checked.prog.looks [] ∧ ∀ (j : Nat) t, fn.params[j]? = some t → Tryz.pinned.checked.prog.wantsStandIn t = false := by
 obtain rfl : f = 6 := Option.some.inj ((show Tryz.prog.funcNamed "familycheck/familychecklaw05.CoverBad" = some 6 by kernel_rfl).symm.trans hf) |>.symm
 obtain rfl : fn = Tryz.f6 := (Option.some.inj (Tryz.func6.symm.trans hfn)).symm
 refine ⟨by kernel_rfl, fun j t ht => ?_⟩
 rw [Tryz.params6] at ht
 have : t = 27 ∨ t = 49 ∨ t = 29 := by simpa using Array.mem_of_getElem? ht
 rcases this with rfl | rfl | rfl
 ·exact (show Tryz.prog.wantsStandIn 27 = false by kernel_rfl)
 ·exact (show Tryz.prog.wantsStandIn 49 = false by kernel_rfl)
 ·exact (show Tryz.prog.wantsStandIn 29 = false by kernel_rfl)
theorem cardOf (hsane : SpecZ Tryz.prog F.law05_sane [] (.bool true)) : Rows.CoverBadUptoCardSaid :=
 Claim7.holds_tied_plain_at .later [] _ _ _ _ (said hsane) (fun _ h => by cases h) (by kernel_rfl) (fun _ h => by cases h) coverBadUpto_row_tie rfl ⟨rfl, rfl⟩ (by kernel_rfl) rfl plain (by kernel_rfl)
end Go.Proofs.YtgokbcjkbdabnaaGreatDoor
