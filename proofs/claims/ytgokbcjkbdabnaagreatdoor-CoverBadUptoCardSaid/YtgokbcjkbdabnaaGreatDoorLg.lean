/-
 The typed layer, part 9: contracts of functions; loops.
-/
import Derived.Shelf.SlSortCmp.WholeK
import Derived.Deep.Slices
import Derived.Carry
import Derived.RowKit
import Derived.Stop.LaidErr
import Derived.Deep.DeepHandedRow
import Derived.Deep.DeepWitnessRowRef
import Derived.Lib.LaidTab
import Derived.Test.YtgokbcjkbdabnaaGreatDoorLf
import Derived.Test.YtgokbcjkbdabnaaGreatDoorLd
import Derived.Test.YtgokbcjkbdabnaaGreatDoorLe
namespace Go.Ab
section
variable {P : Program}
structure Body (P : Program) (f : FuncId) (ac : ACode) (rs : List RV) (nt : Nat) : Prop where
 ex : ∃ fn c, P.funcs[f]? = some fn ∧ fn.body = some c ∧ comp P c = some ac ∧ compRes P fn.results.toList = some rs ∧ fn.ntmps = nt
 cl : callable P f
 dst : dstOk nt ac = true
def resV1 (m : Fm) (h : Hz) : RV → Option V
 | .slot t => m.get t
 | .cell a k => match m.get a with
  | some v => match ldZ h k v with | some (u, .no) => some u | _ => none
  | none => none
def resVL (m : Fm) (h : Hz) : List RV → Option (List V)
 | [] => some []
 | r :: rs => match resV1 m h r, resVL m h rs with
  | some v, some l => some (v :: l)
  | _, _ => none
def resV (m : Fm) (h : Hz) (rs : List RV) : Option V :=
 match resVL m h rs with
 | some [v] => some v
 | some l => some (.tup l)
 | none => none
theorem resV1_ok {m : Fm} {h : Hz} {s : AS} (R : Rp m s.fr) (hh : s.hp = h.toHp) {r : RV} {v : V} (q : resV1 m h r = some v) : r.ok s ∧ r.val s = v.toT := by
 cases r with
 | slot t => exact ⟨trivial, R.getD q⟩
 | cell a k =>
  simp only [resV1] at q
  split at q
  ·rename_i u hu
   split at q
   ·rename_i w hw
    cases q
    have := ldZ_ok (x := .t a) hh hw trivial (R.ev (x := .t a) hu)
    exact this
   ·cases q
  ·cases q
theorem resVL_ok {m : Fm} {h : Hz} {s : AS} (R : Rp m s.fr) (hh : s.hp = h.toHp) : ∀ {rs : List RV} {l : List V}, resVL m h rs = some l → resOk s rs ∧ rs.map (RV.val s) = V.toL l := by
 intro rs
 induction rs with
 | nil => intro l q; cases q; exact ⟨trivial, rfl⟩
 | cons r rs ih =>
  intro l q
  simp only [resVL] at q
  split at q
  ·rename_i v l' h1 h2
   cases q
   obtain ⟨a1, a2⟩ := resV1_ok R hh h1
   obtain ⟨b1, b2⟩ := ih h2
   exact ⟨⟨a1, b1⟩, by simp only [List.map_cons, V.toL]; rw [a2, b2]⟩
  ·cases q
theorem resV_ok {m : Fm} {h : Hz} {s : AS} (R : Rp m s.fr) (hh : s.hp = h.toHp) {rs : List RV} {v : V} (q : resV m h rs = some v) : resOk s rs ∧ resT s rs = v.toT := by
 unfold resV at q
 split at q
 ·rename_i u e
  cases q
  obtain ⟨a, b⟩ := resVL_ok R hh e
  refine ⟨a, ?_⟩
  cases rs with
  | nil => simp [V.toL] at b
  | cons r rs =>
   cases rs with
   | nil => simp only [List.map_cons, List.map_nil, V.toL, List.cons.injEq, and_true] at b; exact b
   | cons r' rs => simp [V.toL] at b
 ·rename_i l hne e
  cases q
  obtain ⟨a, b⟩ := resVL_ok R hh e
  refine ⟨a, ?_⟩
  match rs, b, e with
  | [], b, _ => simp only [resT, V.toT]; rw [b]
  | [r], b, e =>
   cases l with
   | nil => simp [V.toL] at b
   | cons u l =>
    cases l with
    | nil => exact absurd rfl (hne u)
    | cons w l => simp [V.toL] at b
  | r :: r' :: rs, b, _ => simp only [resT, V.toT]; rw [b]
 ·cases q
structure EndZ (res v : V) (h : Hz) : Prop where
 ok : T.sub (fun _ => True) h.toHp res.toT v.toT
def DoneZ (rs : List RV) (res : V) : Qz
 | .exit _, _, _, _ => False
 | _, m, h, _ => match resV m h rs with
  | some v => v.seq fun v => EndZ res v h
  | none => False
def argsFm : Nat → List V → Fm
 | _, [] => []
 | i, v :: r => (i, v) :: argsFm (i + 1) r
theorem argsFm_get : ∀ {l : List V} {i j : Nat} {v : V}, (argsFm i l).get j = some v → ∃ k, j = i + k ∧ l[k]? = some v := by
 intro l
 induction l with
 | nil => intro i j v q; cases q
 | cons u r ih =>
  intro i j v q
  simp only [argsFm, Fm.get] at q
  cases hb : Nat.beq i j with
  | true => rw [hb] at q; cases q; exact ⟨0, (beqN hb).symm, rfl⟩
  | false =>
   rw [hb] at q
   obtain ⟨k, e1, e2⟩ := ih q
   exact ⟨k + 1, by omega, by simpa using e2⟩
theorem argsFm_rep {l : List V} {n : Nat} : Rp (argsFm 0 l) (V.toL l ++ List.replicate n T.un) := by
 intro i v q
 obtain ⟨k, e1, e2⟩ := argsFm_get q
 have e : i = k := by omega
 subst e
 have hk : i < l.length := (List.getElem?_eq_some_iff.1 e2).1
 rw [List.getElem?_append_left (by rw [toL_length]; exact hk), toL_map, List.getElem?_map, e2]
 rfl
theorem no_toHp : (no : Hp) = Hz.toHp [] := rfl
@[reducible] def SpecZ (P : Program) (f : FuncId) (args : List V) (res : V) : Prop := APure P f (V.toL args) res.toT
theorem SpecZ.of {f : FuncId} {ac : ACode} {rs : List RV} {nt : Nat} {args : List V} {res : V} (B : Body P f ac rs nt) (hn : args.length ≤ nt) (hf : V.freeL args = true) (hr : res.free = true) (H : az P nt 0 ac (DoneZ rs res) (argsFm 0 args) [] 0) : SpecZ P f args res := by
 obtain ⟨fn, c, h1, h2, h3, h4, h5⟩ := B.ex
 have hids : res.toT.ids (fun _ => False) := free_ids (V.free_toT res hr)
 refine AFn.of_body (o := none) h1 h2 h3 h4 B.cl h5 (V.freeL_toL args hf) (fun _ _ => ren_of _ hids) (fun _ => T.ids_weaken (fun _ h => h.elim) _ hids) (fun _ h => by cases h) ?_
 have := az_sound (P := P) (N := nt) (pn := 0) (s := ⟨V.toL args ++ List.replicate (nt - (V.toL args).length) T.un, no, 0, 0⟩) B.dst (by simp [toL_length]; omega) argsFm_rep no_toHp rfl H
 refine aw_mono ?_ this
 rintro e s ⟨m, h, a1, a2, a3, a4, a5⟩
 have key : ∀ {m h}, Rp m s.fr → s.hp = Hz.toHp h → (match resV m h rs with | some v => v.seq fun v => EndZ res v h | none => False) → resOk s rs ∧ T.sub (fun _ => True) s.hp res.toT (resT s rs) := by
  intro m h a2 a3 q
  split at q
  ·rename_i v hv
   rw [V.seq_eq] at q
   obtain ⟨b1, b2⟩ := resV_ok a2 a3 hv
   exact ⟨b1, by rw [b2, a3]; exact q.ok⟩
  ·exact q.elim
 cases e with
 | exit j => exact a5.elim
 | normal => exact key a2 a3 a5
 | ret => exact key a2 a3 a5
theorem EndZ.int {a b : Int} {h : Hz} (e : a = b) : EndZ (.int a) (.int b) h := ⟨by subst e; exact sub_refl _⟩
theorem EndZ.bool {a b : Bool} {h : Hz} (e : a = b) : EndZ (.bool a) (.bool b) h := ⟨by subst e; exact sub_refl _⟩
theorem EndZ.row {a b : Rw} {k : Nat} {f : Bool} {h : Hz} (e : a = b) : EndZ (.row k false a) (.row k f b) h := ⟨by
 subst e; simp only [V.toT, T.sub]; exact ⟨.inl trivial, .inl trivial, fun h => by cases h⟩⟩
theorem CallZ.pure {dr : Bool} {f : FuncId} {args : List V} {res : V} {h : Hz} {n : Nat} {K : V → Hz → Prop} (S : SpecZ P f args res) (hr : res.free = true) (hK : K res h) : CallZ P dr none f args h n K :=
 ⟨AFn.use S (subL_refl _) ⟨res, h, rfl, rfl, fun _ => ⟨rfl, V.free_toT res hr⟩, hK⟩⟩
theorem CallZ.pureG {dr : Bool} {b : Bool} {f : FuncId} {args : List V} {res : V} {h : Hz} {n : Nat} {K : V → Hz → Prop} (S : b = true → SpecZ P f args res) (hr : res.free = true) (hK : K res h) : CallZ P dr (some b) f args h n K :=
 ⟨⟨res, fun e => AFn.use (S e) (subL_refl _) ⟨rfl, rfl⟩, hr, hK⟩⟩
def keepZ (m : Fm) : List Nat → Fm → (Fm → Prop) → Prop
 | [], acc, K => K acc
 | d :: r, acc, K => match m.get d with
  | some v => v.seq fun v => keepZ m r ((d, v) :: acc) K
  | none => False
theorem keepZ_inv {m : Fm} : ∀ {l : List Nat} {acc : Fm} {K : Fm → Prop}, keepZ m l acc K → (∀ i v, acc.get i = some v → m.get i = some v) → ∃ b, K b ∧ ∀ i v, Fm.get i b = some v → m.get i = some v := by
 intro l
 induction l with
 | nil => intro acc K q ha; exact ⟨acc, q, ha⟩
 | cons d r ih =>
  intro acc K q ha
  simp only [keepZ] at q
  split at q
  ·rename_i v hv
   rw [V.seq_eq] at q
   refine ih q ?_
   intro i u hu
   simp only [Fm.get] at hu
   cases hb : Nat.beq d i with
   | true => rw [hb] at hu; cases hu; rw [← beqN hb]; exact hv
   | false => rw [hb] at hu; exact ha i u hu
  ·exact q.elim
def sameL (m' : Fm) : Fm → Prop
 | [] => True
 | p :: r => (∃ v, m'.get p.1 = some v ∧ p.2.toT = v.toT) ∧ sameL m' r
theorem sameL_get {m' : Fm} : ∀ {m0 : Fm}, sameL m' m0 → ∀ {i : Nat} {v : V}, m0.get i = some v → ∃ u, m'.get i = some u ∧ v.toT = u.toT := by
 intro m0
 induction m0 with
 | nil => intro _ i v q; cases q
 | cons p r ih =>
  intro hs i v q
  simp only [Fm.get] at q
  cases hb : Nat.beq p.1 i with
  | true => rw [hb] at q; cases q; rw [← beqN hb]; exact hs.1
  | false => rw [hb] at q; exact ih hs.2 q
def ltF (nx N : Nat) : Fm → Bool
 | [] => true
 | p :: r => T.lt nx p.2.toT && Nat.blt p.1 N && ltF nx N r
theorem ltF_get {nx N : Nat} : ∀ {m : Fm}, ltF nx N m = true → ∀ {i : Nat} {v : V}, m.get i = some v → T.lt nx v.toT = true ∧ i < N := by
 intro m
 induction m with
 | nil => intro _ i v q; cases q
 | cons p r ih =>
  intro hs i v q
  simp only [ltF, Bool.and_eq_true] at hs
  simp only [Fm.get] at q
  cases hb : Nat.beq p.1 i with
  | true => rw [hb] at q; cases q; exact ⟨hs.1.1, by rw [← beqN hb]; simpa using hs.1.2⟩
  | false => rw [hb] at q; exact ih hs.2 q
def frOf (N : Nat) (m : Fm) : List T := (List.range N).map fun i => match m.get i with | some v => v.toT | none => .any
theorem frOf_len {N : Nat} {m : Fm} : (frOf N m).length = N := by simp [frOf]
theorem frOf_rep {N : Nat} {m : Fm} (hN : ∀ i v, m.get i = some v → i < N) : Rp m (frOf N m) := by
 intro i v q
 simp only [frOf, List.getElem?_map, List.getElem?_range (hN i v q), Option.map_some, q]
theorem subL_of {Z : Nat → Prop} {h : Hp} : ∀ {a b : List T}, a.length = b.length → (∀ (i : Nat) (t u : T), a[i]? = some t → b[i]? = some u → T.sub Z h t u) → T.subL Z h a b := by
 intro a
 induction a with
 | nil => intro b hl _; cases b with | nil => trivial | cons _ _ => simp at hl
 | cons t a ih =>
  intro b hl H
  cases b with
  | nil => simp at hl
  | cons u b => exact ⟨H 0 t u rfl rfl, ih (by simpa using hl) fun i t u h1 h2 => H (i + 1) t u (by simpa using h1) (by simpa using h2)⟩
theorem any_sub {Z : Nat → Prop} {h : Hp} {t : T} : T.sub Z h .any t := by cases t <;> simp [T.sub]
theorem frOf_sub {N : Nat} {m0 m : Fm} {fr : List T} {Z : Nat → Prop} {h : Hp} (hl : fr.length = N) (R : Rp m fr) (hs : ∀ i v, m0.get i = some v → ∃ u, m.get i = some u ∧ v.toT = u.toT) : T.subL Z h (frOf N m0) fr := by
 refine subL_of (by rw [frOf_len, hl]) fun i t u h1 h2 => ?_
 simp only [frOf, List.getElem?_map] at h1
 have hi : i < N := by
  rcases Nat.lt_or_ge i N with h | h
  ·exact h
  ·rw [List.getElem?_eq_none (by simpa using h)] at h1; cases h1
 rw [List.getElem?_range hi] at h1
 simp only [Option.map_some, Option.some.injEq] at h1
 split at h1
 ·rename_i v hv
  obtain ⟨w, hw, e⟩ := hs i v hv
  have := R i w hw
  rw [h2] at this
  simp only [Option.some.injEq] at this
  subst h1; rw [this, e]; exact sub_refl _
 ·subst h1; exact any_sub
theorem frOf_ids {N nx : Nat} {m : Fm} (hg : ∀ i v, m.get i = some v → T.lt nx v.toT = true) : T.idsL (· < nx) (frOf N m) := by
 rw [idsL_iff]
 intro t ht
 simp only [frOf, List.mem_map] at ht
 obtain ⟨i, _, e⟩ := ht
 split at e
 ·rename_i v hv; subst e; exact lt_ids (hg i v hv)
 ·subst e; simp [T.ids]
def OV.good (nx : Nat) : OV → Bool
 | .row _ k r x => (match r with | .nil => true | r => Nat.beq r.kd k) && kdL k x && T.ltL nx (V.toL x) && !(Nat.beq k mapK)
 | .box _ k v => kdL k [v] && T.lt nx v.toT && !(Nat.beq k mapK)
 | .map _ es => es.all fun e => T.lt nx e.2.toT
def goodH (nx : Nat) : Hz → Bool
 | [] => true
 | (i, some o) :: r => Nat.blt i nx && o.good nx && goodH nx r
 | (_, none) :: r => goodH nx r
theorem ltL_ids {n : Nat} : ∀ {l : List T}, T.ltL n l = true → T.idsL (· < n) l := by
 intro l
 induction l with
 | nil => intro _; trivial
 | cons t l ih =>
  intro q
  simp only [T.ltL, Bool.and_eq_true] at q
  exact ⟨lt_ids q.1, ih q.2⟩
theorem Rw.ids {M : Nat → Prop} (r : Rw) : T.idsL M r.toL := by
 rw [idsL_iff]
 intro t ht
 cases r <;> simp only [Rw.toL, List.mem_map, List.not_mem_nil] at ht <;> obtain ⟨x, _, rfl⟩ := ht <;> simp [eS, T.ids, T.idsL, eLin, eThr, eRule, eCnt, eClause, eElem]
theorem Rw.kds {r : Rw} : ∀ t ∈ r.toL, t.kd = r.kd := by
 intro t ht
 cases r <;> simp only [Rw.toL, List.mem_map, List.not_mem_nil] at ht <;> obtain ⟨x, _, rfl⟩ := ht <;> rfl
theorem kdL_all {k : Nat} {l : List V} (q : kdL k l = true) : ∀ t ∈ V.toL l, t.kd = k := by
 intro t ht
 rw [toL_map, List.mem_map] at ht
 obtain ⟨v, hv, rfl⟩ := ht
 exact V.kd_toT (kdL_get q v hv)
theorem kdB_row {k : Nat} {l : List T} (hk : k ≠ mapK) (h : ∀ t ∈ l, t.kd = k) : kdB k l = true := by
 unfold kdB
 have : (k == 1000000007) = false := by simpa using hk
 rw [this]; simp only [cond_false, List.all_eq_true, beq_iff_eq]; exact h
theorem OV.good_ok {nx : Nat} {o : OV} (q : o.good nx = true) : T.idsL (· < nx) o.toOb.l ∧ kdB o.toOb.k o.toOb.l = true := by
 cases o with
 | row ty k r x =>
  simp only [OV.good, Bool.and_eq_true, Bool.not_eq_true'] at q
  obtain ⟨⟨⟨q1, q2⟩, q3⟩, q4⟩ := q
  simp only [OV.toOb]
  refine ⟨idsL_append.2 ⟨r.ids, ltL_ids q3⟩, kdB_row (Nat.ne_of_beq_eq_false q4) fun t ht => ?_⟩
  rcases List.mem_append.1 ht with ht | ht
  ·split at q1
   ·cases ht
   ·rw [← beqN q1]; exact Rw.kds t ht
  ·exact kdL_all q2 t ht
 | box ty k v =>
  simp only [OV.good, Bool.and_eq_true, Bool.not_eq_true'] at q
  obtain ⟨⟨q1, q2⟩, q3⟩ := q
  simp only [OV.toOb]
  refine ⟨⟨lt_ids q2, trivial⟩, kdB_row (Nat.ne_of_beq_eq_false q3) fun t ht => ?_⟩
  rw [List.mem_singleton] at ht; subst ht; exact kdL1 q1
 | map ty es =>
  simp only [OV.good, List.all_eq_true] at q
  simp only [OV.toOb]
  refine ⟨?_, ?_⟩
  ·rw [idsL_iff]
   intro t ht
   rw [List.mem_map] at ht
   obtain ⟨e, he, rfl⟩ := ht
   simp only [T.ids, T.idsL]; exact ⟨trivial, lt_ids (q e he), trivial⟩
  ·unfold kdB
   simp [mapK, isEnt]
theorem goodH_ok {nx : Nat} : ∀ {h : Hz}, goodH nx h = true → HpG nx h.toHp := by
 intro h
 induction h with
 | nil => intro _ i ob e; simp [Hz.toHp, Hz.get] at e
 | cons p r ih =>
  obtain ⟨j, o⟩ := p
  intro q
  rw [toHp_put]
  cases o with
  | none => exact HpG_del (ih q)
  | some o =>
   simp only [goodH, Bool.and_eq_true] at q
   obtain ⟨g1, g2⟩ := OV.good_ok q.1.2
   exact HpG_upd (ih q.2) (by simpa using q.1.1) g1 g2
def stripH (nx : Nat) : Hz → Hz
 | [] => []
 | (i, o) :: r => bif Nat.blt i nx then (i, o) :: stripH nx r else stripH nx r
theorem stripH_get {nx i : Nat} (hi : i < nx) : ∀ {h : Hz}, (stripH nx h).get i = h.get i := by
 intro h
 induction h with
 | nil => rfl
 | cons p r ih =>
  obtain ⟨j, o⟩ := p
  simp only [stripH]
  cases hb : Nat.blt j nx with
  | true => simp only [cond_true, Hz.get]; cases Nat.beq j i <;> simp [ih]
  | false =>
   simp only [cond_false, Hz.get]
   have hne : Nat.beq j i = false := by
    cases e : Nat.beq j i with
    | false => rfl
    | true =>
     have := beqN e; subst this
     have : Nat.blt j nx = true := by simpa using hi
     rw [this] at hb; cases hb
   rw [hne]; exact ih
structure BackZ {ι : Type} (inv : ι → Prop) (μ : ι → Nat) (vars : ι → Fm) (base : Fm) (hs : Hz) (nx : Nat) (i : ι) (m : Fm) (h : Hz) : Prop where
 ok : ∃ j, inv j ∧ μ j < μ i ∧ sameL m (vars j) ∧ sameL m base ∧ stripH nx h = hs
theorem get_append {a b : Fm} {i : Nat} {v : V} (q : Fm.get i (a ++ b) = some v) : a.get i = some v ∨ Fm.get i b = some v := by
 induction a with
 | nil => exact .inr q
 | cons p r ih =>
  simp only [List.cons_append, Fm.get] at q ⊢
  cases hb : Nat.beq p.1 i with
  | true => rw [hb] at q; exact .inl q
  | false => rw [hb] at q; exact ih q
theorem LoopZ.same {N pn nx : Nat} {b : ACode} {Q : Qz} {m : Fm} {h : Hz} {ι : Type} (live : List Nat) (vars : ι → Fm) (inv : ι → Prop) (μ : ι → Nat) (i0 : ι) (hd : dstOk N b = true) (hp : pn ≤ nx) (hg : goodH nx h = true) (hv : ∀ i, ltF nx N (vars i) = true) (h0 : inv i0) (he : sameL m (vars i0))
  (H : keepZ m live [] fun base => ltF nx N base = true ∧ ∀ i, inv i → az P N pn b (fun e m' h' n' => match e with
   | .normal => BackZ inv μ vars base (stripH nx h) nx i m' h'
   | e => Q e m' h' n') (vars i ++ base) h nx) : LoopZ P N pn b Q m h nx := by
 obtain ⟨base, ⟨hb, H⟩, hbm⟩ := keepZ_inv H (fun i v q => by cases q)
 refine ⟨fun fr hl R => ?_⟩
 have hall : ∀ i j v, Fm.get j (vars i ++ base) = some v → T.lt nx v.toT = true ∧ j < N := fun i j v q => by
  rcases get_append q with q | q
  ·exact ltF_get (hv i) q
  ·exact ltF_get hb q
 have wk : ∀ (i : ι) (m' : Fm) (h' : Hz) (s' : AS), s'.fr.length = N → Rp m' s'.fr → s'.hp = h'.toHp → s'.pin = pn → sameL m' (vars i) → (∀ j v, Fm.get j base = some v → ∃ u, m'.get j = some u ∧ v.toT = u.toT) → stripH nx h' = stripH nx h →
   Wk ⟨frOf N (vars i ++ base), h.toHp, nx, pn⟩ s' := by
  intro i m' h' s' a1 a2 a3 a4 a5 a6 a7
  obtain ⟨fr', hp', nx', pn'⟩ := s'
  simp only at a1 a2 a3 a4
  subst a3; subst a4
  refine Wk.same (frOf_sub a1 a2 fun j v q => ?_) (frOf_ids fun j v q => (hall i j v q).1) (goodH_ok hg) (fun j hj => ?_) hp
  ·rcases get_append q with q | q
   ·exact sameL_get a5 q
   ·exact a6 j v q
  ·simp only [Hz.toHp]; rw [← stripH_get hj, a7, stripH_get hj]
 refine LoopA.rule (fun i => ⟨frOf N (vars i ++ base), h.toHp, nx, pn⟩) inv μ i0 h0 (wk i0 m h _ hl R rfl rfl he (fun j v q => ⟨v, hbm j v q, rfl⟩) rfl) ?_
 intro i hi
 have := az_sound (P := P) (N := N) (pn := pn) (s := ⟨frOf N (vars i ++ base), h.toHp, nx, pn⟩) hd frOf_len (frOf_rep fun j v q => (hall i j v q).2) rfl rfl (H i hi)
 refine aw_mono ?_ this
 rintro e s' ⟨m', h', a1, a2, a3, a4, a5⟩
 cases e with
 | normal =>
  obtain ⟨j, b1, b2, b3, b4, b5⟩ := a5.ok
  exact ⟨j, ⟨b1, b2⟩, wk j m' h' s' a1 a2 a3 a4 b3 (fun j v q => sameL_get b4 q) b5⟩
 | exit j => exact ⟨m', h', a1, a2, a3, a4, a5⟩
 | ret => exact ⟨m', h', a1, a2, a3, a4, a5⟩
end
end Go.Ab
namespace Go.Ab
def qm (d x : Nat) : AOper := o d (.mv (.t x))
def qz' (d : Nat) (n : Int) : AOper := o d (.mv (.c (.int n)))
def qv (d : Nat) (b : Bool) : AOper := o d (.mv (.c (.bool b)))
def qb (op : BinOp) (d x y : Nat) : AOper := o d (.bin op (.t x) (.t y))
def qk (op : BinOp) (d x : Nat) (n : Int) : AOper := o d (.bin op (.t x) (.c (.int n)))
def ql (d k x : Nat) : AOper := o d (.ld k (.t x))
def qf (d a k x : Nat) : AOper := o d (.fa a k (.t x))
def qi (d k x y : Nat) : AOper := o d (.ia k (.t x) (.t y))
def qn (d x : Nat) : AOper := o d (.len false (.t x))
def qo (d a b : Nat) : AOper := o d (.pick (.t a) (.c (.bool true)) (.t b))
def qa (d a b : Nat) : AOper := o d (.pick (.t a) (.t b) (.c (.bool false)))
def qx (d x : Nat) : AOper := o d (.not (.t x))
def qe (d x i : Nat) : AOper := o d (.ex (.t x) i)
def qB (d : Nat) (ty : TypeId) (k x : Nat) : AOper := o d (.box ty k (.t x))
def qs (k x y : Nat) : AOper := ov (.st k (.t x) (.t y))
def qC (d : Nat) (f : FuncId) (l : List Nat) : AOper := o d (.call f (l.map .t))
def AOper.w (q : AOper) (g : Nat) : AOper := ⟨q.d, q.op, some (g, true), q.fl, q.ne⟩
def AOper.n (q : AOper) (g : Nat) : AOper := ⟨q.d, q.op, some (g, false), q.fl, q.ne⟩
theorem Body.of {P : Program} {f : FuncId} {fn : Func} {ac : ACode} {rs : List RV} {nt : Nat} (h1 : P.funcs[f]? = some fn) (h2 : (fn.body.isSome, comp P (fn.body.getD .skip), compRes P fn.results.toList, fn.ntmps, dstOk nt ac) = (true, some ac, some rs, nt, true)) (h3 : callable P f) : Body P f ac rs nt := by
 simp only [Prod.mk.injEq] at h2
 obtain ⟨a, b, c, d, e⟩ := h2
 obtain ⟨cd, hc⟩ := Option.isSome_iff_exists.1 a
 rw [hc] at b
 exact ⟨⟨fn, cd, h1, hc, b, c, d⟩, h3, e⟩
end Go.Ab
namespace Go.Ab
section
variable {P : Program}
def SubA (a b : List T) : Prop := ∀ (Z : Nat → Prop) (h : Hp), T.subL Z h a b
theorem SubA.refl (a : List T) : SubA a a := fun _ _ => subL_refl a
def OV.fre : OV → Bool
 | .row _ _ _ x => V.freeL x
 | .box _ _ v => v.free
 | .map _ _ => false
theorem OV.fre_ren {o : OV} (q : o.fre = true) (ρ : Nat → Nat) : T.renL ρ o.toOb.l = o.toOb.l := by
 cases o with
 | row ty k r x =>
  simp only [OV.fre] at q
  simp only [OV.toOb]
  exact renL_of _ (idsL_append.2 ⟨r.ids, freeL_ids (V.freeL_toL x q)⟩)
 | box ty k v =>
  simp only [OV.fre] at q
  simp only [OV.toOb]
  exact renL_of _ ⟨free_ids (V.free_toT v q), trivial⟩
 | map ty es => cases q
def nowN : List (Nat × OV) → List Nat → Nat → Nat
 | (c, _) :: r, n :: s, i => bif Nat.beq i c then n else nowN r s i
 | _, _, i => i
def notIn (n : Nat) : List Nat → Bool
 | [] => true
 | m :: r => !(Nat.beq n m) && notIn n r
def okN' (nx pn : Nat) (h : Hz) : List (Nat × OV) → List Nat → Prop
 | [], [] => True
 | (c, o) :: r, n :: s => (Nat.blt c nx = true ∧ (Nat.blt c pn = true → n = c) ∧ notIn n s = true ∧ o.good nx = true ∧ o.fre = true ∧
   ∃ o', h.get n = some o' ∧ o'.toOb.ty = o.toOb.ty ∧ o'.toOb.k = o.toOb.k ∧ SubA o.toOb.l o'.toOb.l) ∧ okN' nx pn h r s
 | _, _ => False
def zipL : List (Nat × OV) → List Nat → List (Nat × Nat × Ob)
 | (c, o) :: r, n :: s => (c, n, o.toOb) :: zipL r s
 | _, _ => []
def hzO (l : List (Nat × OV)) : Hz := l.map fun p => (p.1, some p.2)
theorem nowL_zip : ∀ {l : List (Nat × OV)} {s : List Nat} {i : Nat}, nowL (zipL l s) i = nowN l s i := by
 intro l
 induction l with
 | nil => intro s i; cases s <;> rfl
 | cons p r ih =>
  obtain ⟨c, o⟩ := p
  intro s i
  cases s with
  | nil => rfl
  | cons n s =>
   simp only [zipL, nowL, nowN]
   rw [ih]
   cases hb : Nat.beq i c with
   | true => rw [if_pos (beqN hb)]; rfl
   | false => rw [if_neg (Nat.ne_of_beq_eq_false hb)]; rfl
theorem hpL_zip {nx pn : Nat} {h : Hz} : ∀ {l : List (Nat × OV)} {s : List Nat}, okN' nx pn h l s → hpL (zipL l s) = (hzO l).toHp := by
 intro l
 induction l with
 | nil => intro s q; cases s with
  | nil => rfl
  | cons _ _ => exact q.elim
 | cons p r ih =>
  obtain ⟨c, o⟩ := p
  intro s q
  cases s with
  | nil => exact q.elim
  | cons n s =>
   simp only [zipL, hpL]
   have e : hzO ((c, o) :: r) = (c, some o) :: hzO r := rfl
   rw [e, toHp_put, ih q.2]; rfl
theorem memL_zip {n : Nat} : ∀ {l : List (Nat × OV)} {s : List Nat}, notIn n s = true → ¬ memL (zipL l s) n := by
 intro l
 induction l with
 | nil => intro s _ q; cases s <;> exact q
 | cons p r ih =>
  obtain ⟨c, o⟩ := p
  intro s hs q
  cases s with
  | nil => exact q
  | cons m s =>
   simp only [notIn, Bool.and_eq_true] at hs
   simp only [zipL, memL] at q
   rcases q with q | q
   ·rw [q, Nat.beq_refl] at hs; cases hs.1
   ·exact ih hs.2 q
theorem okL_zip {nx pn : Nat} {h : Hz} {Z : Nat → Prop} {ρ : Nat → Nat} : ∀ {l : List (Nat × OV)} {s : List Nat}, okN' nx pn h l s → okL Z ρ h.toHp nx pn (zipL l s) := by
 intro l
 induction l with
 | nil => intro s _; cases s <;> trivial
 | cons p r ih =>
  obtain ⟨c, o⟩ := p
  intro s q
  cases s with
  | nil => exact q.elim
  | cons n s =>
   obtain ⟨⟨q1, q2, q3, q4, q5, o', q6, q7, q8, q9⟩, q⟩ := q
   obtain ⟨g1, g2⟩ := OV.good_ok q4
   refine ⟨⟨Nat.blt_eq.mp q1, fun hc => q2 (Nat.blt_eq.mpr hc), memL_zip q3, g1, g2, o'.toOb.l, ?_, ?_⟩, ih q⟩
   ·have := toHp_some q6
    show h.toHp n = some ⟨o.toOb.ty, o.toOb.k, o'.toOb.l⟩
    rw [this, ← q7, ← q8]
   ·show T.subL Z h.toHp (T.renL ρ o.toOb.l) o'.toOb.l
    rw [OV.fre_ren q5]; exact q9 _ _
def sameR (ρ : Nat → Nat) (m' : Fm) : Fm → Prop
 | [] => True
 | (i, v) :: r => (∃ u, m'.get i = some u ∧ SubA [v.toT.ren ρ] [u.toT]) ∧ sameR ρ m' r
theorem sameR_get {ρ : Nat → Nat} {m' : Fm} : ∀ {m0 : Fm}, sameR ρ m' m0 → ∀ {i : Nat} {v : V}, m0.get i = some v → ∃ u, m'.get i = some u ∧ SubA [v.toT.ren ρ] [u.toT] := by
 intro m0
 induction m0 with
 | nil => intro _ i v q; cases q
 | cons p r ih =>
  obtain ⟨j, w⟩ := p
  intro hs i v q
  simp only [Fm.get] at q
  cases hb : Nat.beq j i with
  | true => rw [hb] at q; cases q; rw [← beqN hb]; exact hs.1
  | false => rw [hb] at q; exact ih hs.2 q
theorem SubA.eq {a b : T} (h : a = b) : SubA [a] [b] := by subst h; exact .refl _
theorem frOf_subR {N : Nat} {m0 m : Fm} {fr : List T} {Z : Nat → Prop} {h : Hp} {ρ : Nat → Nat} (hl : fr.length = N) (R : Rp m fr) (hs : ∀ i v, m0.get i = some v → ∃ u, m.get i = some u ∧ SubA [v.toT.ren ρ] [u.toT]) : T.subL Z h (T.renL ρ (frOf N m0)) fr := by
 refine subL_of (by rw [renL_length, frOf_len, hl]) fun i t u h1 h2 => ?_
 have e : ∀ l : List T, T.renL ρ l = l.map (T.ren ρ) := by
  intro l
  induction l with
  | nil => rfl
  | cons a l ih => simp only [T.renL, List.map_cons, ih]
 rw [e] at h1
 simp only [frOf, List.getElem?_map] at h1
 have hi : i < N := by
  rcases Nat.lt_or_ge i N with h | h
  ·exact h
  ·rw [List.getElem?_eq_none (by simpa using h)] at h1; cases h1
 rw [List.getElem?_range hi] at h1
 simp only [Option.map_some, Option.some.injEq] at h1
 split at h1
 ·rename_i v hv
  obtain ⟨w, hw, e⟩ := hs i v hv
  have := R i w hw
  rw [h2] at this
  simp only [Option.some.injEq] at this
  subst h1; rw [this]; exact (e Z h).1
 ·subst h1; exact any_sub
structure BackO {ι : Type} (inv : ι → Prop) (μ : ι → Nat) (vars : ι → Fm) (objs : ι → List (Nat × OV)) (base : Fm) (nx pn : Nat) (i : ι) (m : Fm) (h : Hz) : Prop where
 ok : ∃ j nw, inv j ∧ μ j < μ i ∧ sameR (nowN (objs j) nw) m (vars j) ∧ sameR (nowN (objs j) nw) m base ∧ okN' nx pn h (objs j) nw
theorem LoopZ.objs {N pn nx0 : Nat} (nx : Nat) {b : ACode} {Q : Qz} {m : Fm} {h : Hz} {ι : Type} (live : List Nat) (vars : ι → Fm) (objs : ι → List (Nat × OV)) (inv : ι → Prop) (μ : ι → Nat) (i0 : ι) (nw0 : List Nat) (hd : dstOk N b = true) (hp : pn ≤ nx) (hv : ∀ i, ltF nx N (vars i) = true) (h0 : inv i0)
  (he : sameR (nowN (objs i0) nw0) m (vars i0)) (ho : okN' nx pn h (objs i0) nw0)
  (H : keepZ m live [] fun base => sameR (nowN (objs i0) nw0) m base ∧ ltF nx N base = true ∧ ∀ i, inv i → az P N pn b (fun e m' h' n' => match e with
   | .normal => BackO inv μ vars objs base nx pn i m' h'
   | e => Q e m' h' n') (vars i ++ base) (hzO (objs i)) nx) : LoopZ P N pn b Q m h nx0 := by
 obtain ⟨base, ⟨hbs, hb, H⟩, hbm⟩ := keepZ_inv H (fun i v q => by cases q)
 refine ⟨fun fr hl R => ?_⟩
 have hall : ∀ i j v, Fm.get j (vars i ++ base) = some v → T.lt nx v.toT = true ∧ j < N := fun i j v q => by
  rcases get_append q with q | q
  ·exact ltF_get (hv i) q
  ·exact ltF_get hb q
 have wk : ∀ (i : ι) (nw : List Nat) (m' : Fm) (h' : Hz) (s' : AS), s'.fr.length = N → Rp m' s'.fr → s'.hp = h'.toHp → s'.pin = pn → sameR (nowN (objs i) nw) m' (vars i) → sameR (nowN (objs i) nw) m' base → okN' nx pn h' (objs i) nw →
   Wk ⟨frOf N (vars i ++ base), (hzO (objs i)).toHp, nx, pn⟩ s' := by
  intro i nw m' h' s' a1 a2 a3 a4 a5 a6 a7
  obtain ⟨fr', hp', nx', pn'⟩ := s'
  simp only at a1 a2 a3 a4
  subst a3; subst a4
  rw [← hpL_zip a7]
  refine Wk.objs (zipL (objs i) nw) (frOf_subR a1 a2 fun j v q => ?_) (frOf_ids fun j v q => (hall i j v q).1) hp (okL_zip a7)
  have e : nowL (zipL (objs i) nw) = nowN (objs i) nw := funext fun _ => nowL_zip
  rw [e]
  rcases get_append q with q | q
  ·exact sameR_get a5 q
  ·exact sameR_get a6 q
 refine LoopA.rule (fun i => ⟨frOf N (vars i ++ base), (hzO (objs i)).toHp, nx, pn⟩) inv μ i0 h0 (wk i0 nw0 m h _ hl R rfl rfl he hbs ho) ?_
 intro i hi
 have := az_sound (P := P) (N := N) (pn := pn) (s := ⟨frOf N (vars i ++ base), (hzO (objs i)).toHp, nx, pn⟩) hd frOf_len (frOf_rep fun j v q => (hall i j v q).2) rfl rfl (H i hi)
 refine aw_mono ?_ this
 rintro e s' ⟨m', h', a1, a2, a3, a4, a5⟩
 cases e with
 | normal =>
  obtain ⟨j, nw, b1, b2, b3, b4, b5⟩ := a5.ok
  exact ⟨j, ⟨b1, b2⟩, wk j nw m' h' s' a1 a2 a3 a4 b3 b4 b5⟩
 | exit j => exact ⟨m', h', a1, a2, a3, a4, a5⟩
 | ret => exact ⟨m', h', a1, a2, a3, a4, a5⟩
theorem LoopZ.nil {N pn nx : Nat} {b : ACode} {Q : Qz} {m : Fm} {h : Hz} (d ty k : Nat) {k' : Nat} {r : Rw} (hd : m.get d = some (.row k' true r)) (hr : r.toL = []) (hk : kPos k = true) (hN : Nat.blt d N = true)
  (H : LoopZ P N pn b Q ((d, .own nx) :: m) ((nx, some (.row ty k .nil [])) :: h) (nx + 1)) : LoopZ P N pn b Q m h nx := by
 refine ⟨fun fr hl R => ?_⟩
 have hdl : d < fr.length := by rw [hl]; exact Nat.blt_eq.mp hN
 have hget : fr.getD d .any = .sl k' true [] := by
  rw [R.getD hd]; simp only [V.toT, hr]
 have H' := H.ok (fr.set d (.own nx)) (by simpa using hl) (fun i v q => by
  simp only [Fm.get] at q
  cases hb : Nat.beq d i with
  | true => rw [hb] at q; cases q; rw [← beqN hb]; simp [hdl, V.toT]
  | false =>
   rw [hb] at q
   rw [List.getElem?_set_ne (Nat.ne_of_beq_eq_false hb)]; exact R i v q)
 have e : Hz.toHp ((nx, some (.row ty k .nil [])) :: h) = upd h.toHp nx (some ⟨ty, k, []⟩) := by rw [toHp_put]; rfl
 rw [e] at H'
 obtain ⟨I, μ, ⟨s0, w0, i0⟩, round⟩ := H'
 exact ⟨I, μ, ⟨s0, Wk.nilSlot d ty k hget hk w0, i0⟩, round⟩
structure EndI (h0 : Hz) (n : Nat) (post : T → Hp → Prop) (v : V) (h : Hz) : Prop where
 ok : ∃ (Z : Nat → Prop) (ρ : Nat → Nat) (t : T) (h' : Hp), post t h' ∧ T.sub Z h.toHp (t.ren ρ) v.toT ∧ (∀ i ob, h' i = some ob → ∃ ob', h.toHp (ρ i) = some ob' ∧ ¬ Z (ρ i) ∧ ObSub Z h.toHp ρ ob ob') ∧
  (∀ i j, (h' i).isSome = true → (h' j).isSome = true → ρ i = ρ j → i = j) ∧ t.ids (fun i => (h0.toHp i).isSome = true ∨ i = n) ∧ idsH (fun i => (h0.toHp i).isSome = true ∨ i = n) h' ∧
  ∀ i, (h0.toHp i).isSome = true → (h' i).isSome = true → ρ i = i
def DoneI (h0 : Hz) (n : Nat) (post : T → Hp → Prop) (rs : List RV) : Qz
 | .exit _, _, _, _ => False
 | _, m, h, _ => match resV m h rs with
  | some v => v.seq fun v => EndI h0 n post v h
  | none => False
theorem SpecI.of {f : FuncId} {ac : ACode} {rs : List RV} {nt nx n : Nat} {args : List V} {h0 : Hz} {post : T → Hp → Prop} (B : Body P f ac rs nt) (hn : args.length ≤ nt) (hin : ∃ t h', post t h') (ha : T.ltL nx (V.toL args) = true) (hg : goodH nx h0 = true)
  (H : az P nt nx ac (DoneI h0 n post rs) (argsFm 0 args) h0 nx) : ACalls P f (V.toL args) h0.toHp n post := by
 obtain ⟨fn, c, h1, h2, h3, h4, h5⟩ := B.ex
 have hG := goodH_ok hg
 refine ACalls.of_body (nx := nx) h1 h2 h3 h4 B.cl h5 hin (ltL_ids ha) (fun i ob hi => ⟨(hG i ob hi).1, (hG i ob hi).2.1⟩) ?_
 have := az_sound (P := P) (N := nt) (pn := nx) (s := ⟨V.toL args ++ List.replicate (nt - (V.toL args).length) T.un, h0.toHp, nx, nx⟩) B.dst (by simp [toL_length]; omega) argsFm_rep rfl rfl H
 refine aw_mono ?_ this
 rintro e s ⟨m, h, a1, a2, a3, a4, a5⟩
 have key : ∀ {m h}, Rp m s.fr → s.hp = Hz.toHp h → (match resV m h rs with | some v => v.seq fun v => EndI h0 n post v h | none => False) → ∃ s1, WkN s1 s ∧ Ret h0.toHp n post rs s1 := by
  intro m h a2 a3 q
  split at q
  ·rename_i v hv
   rw [V.seq_eq] at q
   obtain ⟨b1, b2⟩ := resV_ok a2 a3 hv
   obtain ⟨Z, ρ, t, h', c1, c2, c3, c4, c5, c6, c7⟩ := q.ok
   exact ⟨s, .refl _, b1, Z, ρ, t, h', c1, by rw [b2, a3]; exact c2, by rw [a3]; exact c3, c4, c5, c6, c7⟩
  ·exact q.elim
 cases e with
 | exit j => exact a5.elim
 | normal => exact key a2 a3 a5
 | ret => exact key a2 a3 a5
theorem EndI.one {h0 h : Hz} {n c j : Nat} {post : T → Hp → Prop} {v : V} {o : OV} {t : T} (hj : h.get j = some o) (hg : o.good (j + 1) = true) (hf : o.fre = true) (hc : (h0.get c).isSome = true → j = c) (hc' : (h0.get c).isSome = true ∨ c = n)
  (ht : t.ids (fun i => i = c)) (hv : SubA [t.ren fun _ => j] [v.toT]) (hp : post t (Hz.toHp [(c, some o)])) : EndI h0 n post v h := by
 have hgood := (OV.good_ok hg).2
 have hM : ∀ i, i = c → (h0.toHp i).isSome = true ∨ i = n := by
  rintro i rfl
  rcases hc' with h | h
  ·left; simpa [Hz.toHp] using h
  ·exact .inr h
 have hx : ∀ i ob, Hz.toHp [(c, some o)] i = some ob → i = c ∧ ob = o.toOb := fun i ob hi => by
  simp only [Hz.toHp, Hz.get] at hi
  cases hb : Nat.beq c i with
  | true => rw [hb] at hi; simp only [cond_true, Option.map_some, Option.some.injEq] at hi; exact ⟨(beqN hb).symm, hi.symm⟩
  | false => rw [hb] at hi; simp at hi
 refine ⟨fun i => i ≠ j, fun _ => j, t, Hz.toHp [(c, some o)], hp, (hv _ _).1, fun i ob hi => ?_, fun i i' hi hi' _ => ?_, T.ids_weaken hM _ ht, fun i ob hi => ?_, fun i hi hi' => ?_⟩
 ·obtain ⟨rfl, rfl⟩ := hx i ob hi
  refine ⟨o.toOb, toHp_some hj, by simp, rfl, rfl, ?_, kdB_of hgood⟩
  rw [OV.fre_ren hf]; exact subL_refl _
 ·obtain ⟨oi, hi⟩ := Option.isSome_iff_exists.1 hi
  obtain ⟨oj, hi'⟩ := Option.isSome_iff_exists.1 hi'
  rw [(hx _ _ hi).1, (hx _ _ hi').1]
 ·obtain ⟨rfl, rfl⟩ := hx i ob hi
  refine ⟨hM _ rfl, ?_⟩
  cases o with
  | row ty k r x => exact idsL_append.2 ⟨r.ids, T.idsL_weaken (fun _ h => h.elim) _ (freeL_ids (V.freeL_toL x hf))⟩
  | box ty k w => exact ⟨T.ids_weaken (fun _ h => h.elim) _ (free_ids (V.free_toT w hf)), trivial⟩
  | map ty es => cases hf
 ·obtain ⟨oi, hi'⟩ := Option.isSome_iff_exists.1 hi'
  obtain ⟨rfl, _⟩ := hx _ _ hi'
  exact hc (by simpa [Hz.toHp] using hi)
theorem CallZ.heap {f : FuncId} {args : List V} {h : Hz} {n : Nat} {K : V → Hz → Prop} {post : T → Hp → Prop} (S : ACalls P f (V.toL args) h.toHp n post) (hK : ∀ t hp, post t hp → ∃ v h', t = v.toT ∧ hp = Hz.toHp h' ∧ K v h') : CallZ P false none f args h n K :=
 ⟨S.mono fun t hp q => by
  obtain ⟨v, h', h1, h2, h3⟩ := hK t hp q
  exact ⟨v, h', h1, h2, (fun e => by cases e), h3⟩⟩
end
end Go.Ab
namespace Go.Ab
section
variable {P : Program}
def LoopN (body : (AExit → AS → Prop) → AS → Prop) (Q : AExit → AS → Prop) : Nat → AS → Prop
 | 0, _ => False
 | k + 1, s => body (fun e s' => match e with | .normal => LoopN body Q k s' | e => Q e s') s
open Classical in
theorem LoopA.ofN {b : ACode} {Q : AExit → AS → Prop} {k : Nat} {s : AS} (h : LoopN (aw P b) Q k s) : LoopA (aw P b) Q s := by
 let I : AS → Nat → Prop := fun s n => LoopN (aw P b) Q n s
 let μ : AS → Nat := fun s => if hh : ∃ n, I s n then Classical.choose (least' _ (Classical.choose_spec hh)) else 0
 have hμ : ∀ s, (∃ n, I s n) → I s (μ s) ∧ ∀ k, I s k → μ s ≤ k := by
  intro s hh
  have e : μ s = Classical.choose (least' _ (Classical.choose_spec hh)) := dif_pos hh
  rw [e]
  exact Classical.choose_spec (least' _ (Classical.choose_spec hh))
 refine ⟨fun s => ∃ n, I s n, μ, ⟨s, ⟨s, .refl _, .inl rfl⟩, k, h⟩, fun s hI => ?_⟩
 have h2 := (hμ s hI).1
 generalize hm : μ s = m at h2
 cases m with
 | zero => exact h2.elim
 | succ m =>
  have h3 : aw P b (fun e s' => match e with | .normal => LoopN (aw P b) Q m s' | e => Q e s') s := h2
  refine aw_mono ?_ h3
  intro e s' q
  cases e with
  | normal => exact ⟨s', ⟨s', .refl _, .inl rfl⟩, ⟨m, q⟩, by have := (hμ s' ⟨m, q⟩).2 m q; omega⟩
  | exit j => exact q
  | ret => exact q
def azN (P : Program) (N pn : Nat) (b : ACode) (Q : Qz) : Nat → Fm → Hz → Nat → Prop
 | 0, _, _, _ => False
 | k + 1, m, h, nx => az P N pn b (fun e m' h' nx' => match e with | .normal => azN P N pn b Q k m' h' nx' | e => Q e m' h' nx') m h nx
theorem LoopZ.times {N pn nx : Nat} {b : ACode} {Q : Qz} {m : Fm} {h : Hz} (k : Nat) (hd : dstOk N b = true) (H : azN P N pn b Q k m h nx) : LoopZ P N pn b Q m h nx := by
 refine ⟨fun fr hl R => LoopA.ofN (k := k) ?_⟩
 have key : ∀ (k : Nat) {m : Fm} {h : Hz} {nx : Nat} {s : AS}, s.fr.length = N → Rp m s.fr → s.hp = h.toHp → s.pin = pn → s.nx = nx → azN P N pn b Q k m h nx → LoopN (aw P b) (Lift N pn Q) k s := by
  intro k
  induction k with
  | zero => intro m h nx s _ _ _ _ _ H; exact H.elim
  | succ k ih =>
   intro m h nx s a1 a2 a3 a4 a5 H
   subst a5
   have := az_sound (P := P) (N := N) (pn := pn) (s := s) hd a1 a2 a3 a4 H
   show aw P b _ s
   refine aw_mono ?_ this
   rintro e s' ⟨m', h', b1, b2, b3, b4, b5⟩
   cases e with
   | normal => exact ih b1 b2 b3 b4 rfl b5
   | exit j => exact ⟨m', h', b1, b2, b3, b4, b5⟩
   | ret => exact ⟨m', h', b1, b2, b3, b4, b5⟩
 exact key k hl R rfl rfl rfl H
end
end Go.Ab
namespace Go.Ab
section
variable {P : Program}
theorem subL_set1 {Z : Nat → Prop} {h : Hp} {t u : T} : ∀ {fr : List T} {j : Nat}, fr[j]? = some u → T.sub Z h t u → T.subL Z h (fr.set j t) fr
 | [], _, e, _ => by simp at e
 | a :: r, 0, e, q => by
  simp only [List.getElem?_cons_zero, Option.some.injEq] at e; subst e
  exact ⟨q, subL_refl _⟩
 | a :: r, j + 1, e, q => by
  simp only [List.getElem?_cons_succ] at e
  exact ⟨sub_refl _, subL_set1 e q⟩
theorem LoopZ.fz {N pn nx : Nat} {b : ACode} {Q : Qz} {m : Fm} {h : Hz} (d i k : Nat) (r : Rw) (hd : m.get d = some (.own i)) (hN : Nat.blt d N = true) (hs : T.sub (fun j => j = i) h.toHp (V.row k false r).toT (V.own i).toT)
  (H : LoopZ P N pn b Q ((d, .row k false r) :: m) ((i, none) :: h) nx) : LoopZ P N pn b Q m h nx := by
 refine ⟨fun fr hl R => ?_⟩
 have hdl : d < fr.length := by rw [hl]; exact Nat.blt_eq.mp hN
 have hget : fr[d]? = some (V.own i).toT := R d _ hd
 have H' := H.ok (fr.set d (V.row k false r).toT) (by simpa using hl) (fun j v q => by
  simp only [Fm.get] at q
  cases hb : Nat.beq d j with
  | true => rw [hb] at q; cases q; rw [← beqN hb]; simp [hdl]
  | false =>
   rw [hb] at q
   rw [List.getElem?_set_ne (Nat.ne_of_beq_eq_false hb)]; exact R j v q)
 obtain ⟨I, μ, ⟨s0, ⟨s1, w1, w2⟩, i0⟩, round⟩ := H'
 have F : FzBy (fun j => j = i) ⟨fr.set d (V.row k false r).toT, Hz.toHp ((i, none) :: h), nx, pn⟩ ⟨fr, h.toHp, nx, pn⟩ := by
  refine ⟨subL_set1 hget hs, fun j ob hj => ?_, rfl, rfl⟩
  have hne : j ≠ i := by
   rintro rfl
   simp [Hz.toHp, Hz.get] at hj
  have hj' : h.toHp j = some ob := by
   have hb : Nat.beq i j = false := by
    cases hb : Nat.beq i j with
    | false => rfl
    | true => exact absurd (Nat.eq_of_beq_eq_true hb).symm hne
   simp only [Hz.toHp, Hz.get, hb] at hj ⊢; exact hj
  exact ⟨ob, hj', hne, rfl, rfl, subL_refl _, rfl, rfl⟩
 exact ⟨I, μ, ⟨s0, ⟨s1, w1.trans (.fz F (.refl _)), w2⟩, i0⟩, round⟩
end
end Go.Ab
namespace Go.Ab
section
variable {P : Program}
theorem fre_ren1 {o : OV} (q : o.fre = true) (ρ : Nat → Nat) : o.toOb.ren ρ = o.toOb := by
 have := OV.fre_ren q ρ
 unfold Ob.ren
 rw [this]
theorem get1 {j : Nat} {o : OV} {i : Nat} : Hz.toHp [(j, some o)] i = if i = j then some o.toOb else none := by
 simp only [Hz.toHp, Hz.get]
 cases hb : Nat.beq j i with
 | true => rw [if_pos (beqN hb).symm]; rfl
 | false => rw [if_neg (fun e => Nat.ne_of_beq_eq_false hb e.symm)]; rfl
theorem get_cons {j i : Nat} {o : Option OV} {h : Hz} : Hz.toHp ((j, o) :: h) i = if i = j then o.map OV.toOb else h.toHp i := by
 simp only [Hz.toHp, Hz.get]
 cases hb : Nat.beq j i with
 | true => rw [if_pos (beqN hb).symm]; rfl
 | false => rw [if_neg (fun e => Nat.ne_of_beq_eq_false hb e.symm)]; rfl
theorem CallZ.place1 {f : FuncId} {ts args : List V} {h : Hz} {i n : Nat} {o0 : OV} {K : V → Hz → Prop} {post : T → Hp → Prop} (H : ACalls P f (V.toL ts) (Hz.toHp [(0, some o0)]) 1 post)
  (ha : T.renL (fun _ => i) (V.toL ts) = V.toL args) (hid : T.ltL 1 (V.toL ts) = true) (hg : o0.good 1 = true) (hf : o0.fre = true) (hi : h.get i = some o0) (hn : h.get n = none)
  (hK : ∀ t hp, post t hp → (∃ v o, hp = Hz.toHp [(0, some o)] ∧ o.fre = true ∧ t.ren (nameAt (fun _ => i) 1 n) = v.toT ∧ K v ((i, some o) :: h)) ∨
   (∃ v o, hp = Hz.toHp [(1, some o)] ∧ o.fre = true ∧ t.ren (nameAt (fun _ => i) 1 n) = v.toT ∧ K v ((n, some o) :: (i, none) :: h))) : CallZ P false none f args h n K := by
 have hin : i ≠ n := by rintro rfl; rw [hi] at hn; cases hn
 have hl0 : ∀ j : Nat, j < 1 → (Hz.toHp [(0, some o0)] j).isSome = true := fun j hj => by rw [get1, if_pos (by omega)]; rfl
 have hsome : ∀ j, (Hz.toHp [(0, some o0)] j).isSome = true → j = 0 := fun j hj => by
  rw [get1] at hj; split at hj
  ·assumption
  ·cases hj
 refine CallZ.heap (post := fun t' h' => ∃ t h1, post t h1 ∧ t' = t.ren (nameAt (fun _ => i) 1 n) ∧ h' = placed (fun _ => i) 1 n (Hz.toHp [(0, some o0)]) h.toHp h1) ?_ ?_
 ·rw [← ha]
  refine ACalls.place H (T.idsL_weaken hl0 _ (ltL_ids hid)) (fun j ob hj => ?_) (by rw [get1]; rfl) (fun j ob hj => ?_) (fun a b h1 h2 _ => by rw [hsome a h1, hsome b h2])
  ·rw [get1] at hj; split at hj
   ·cases hj
    have hz : T.idsL (fun _ => False) o0.toOb.l := by
     cases o0 with
     | row ty k r x => exact idsL_append.2 ⟨r.ids, freeL_ids (V.freeL_toL x hf)⟩
     | box ty k w => exact ⟨free_ids (V.free_toT w hf), trivial⟩
     | map ty es => cases hf
    exact ⟨T.idsL_weaken (fun _ h => h.elim) _ hz, (OV.good_ok hg).2⟩
   ·cases hj
  ·rw [get1] at hj; split at hj
   ·cases hj
    rw [fre_ren1 hf]; exact toHp_some hi
   ·cases hj
 ·rintro t' h' ⟨t, h1, hp, rfl, rfl⟩
  have inj : ∀ a b, ((Hz.toHp [(0, some o0)] a).isSome = true ∨ a = 1) → ((Hz.toHp [(0, some o0)] b).isSome = true ∨ b = 1) → nameAt (fun _ => i) 1 n a = nameAt (fun _ => i) 1 n b → a = b := by
   intro a b ha hb e
   rcases ha with ha | rfl <;> rcases hb with hb | rfl
   ·rw [hsome a ha, hsome b hb]
   ·rw [hsome a ha] at e; exact absurd e hin
   ·rw [hsome b hb] at e; exact absurd e.symm hin
   ·rfl
  have at0 : ∀ h1, placed (fun _ => i) 1 n (Hz.toHp [(0, some o0)]) h.toHp h1 i = (h1 0).map (Ob.ren (nameAt (fun _ => i) 1 n)) := fun h1 => placed_at (h := h.toHp) (h1 := h1) inj (i := 0) (.inl (hl0 0 (by decide)))
  have at1 : ∀ h1, placed (fun _ => i) 1 n (Hz.toHp [(0, some o0)]) h.toHp h1 n = (h1 1).map (Ob.ren (nameAt (fun _ => i) 1 n)) := fun h1 => placed_at (h := h.toHp) (h1 := h1) inj (i := 1) (.inr rfl)
  have atO : ∀ h1 j, j ≠ i → j ≠ n → placed (fun _ => i) 1 n (Hz.toHp [(0, some o0)]) h.toHp h1 j = h.toHp j := fun h1 j g1 g2 => placed_off (by
   rintro ⟨a, ha, e⟩
   rcases ha with ha | rfl
   ·rw [hsome a ha] at e; exact g1 e.symm
   ·exact g2 e.symm)
  rcases hK t h1 hp with ⟨v, o, rfl, ho, hv, hk⟩ | ⟨v, o, rfl, ho, hv, hk⟩
  ·refine ⟨v, _, hv, ?_, hk⟩
   funext j
   rw [get_cons]
   by_cases e1 : j = i
   ·subst e1; rw [if_pos rfl, at0, get1, if_pos rfl, Option.map_some, fre_ren1 ho]; rfl
   ·rw [if_neg e1]
    by_cases e2 : j = n
    ·subst e2; rw [at1, get1, if_neg (by decide)]; simp only [Hz.toHp, hn]; rfl
    ·exact atO _ j e1 e2
  ·refine ⟨v, _, hv, ?_, hk⟩
   funext j
   rw [get_cons, get_cons]
   by_cases e2 : j = n
   ·subst e2; rw [if_pos rfl, at1, get1, if_pos rfl, Option.map_some, fre_ren1 ho]; rfl
   ·rw [if_neg e2]
    by_cases e1 : j = i
    ·subst e1; rw [if_pos rfl, at0, get1, if_neg (by decide)]; rfl
    ·rw [if_neg e1]; exact atO _ j e1 e2
end
end Go.Ab
namespace Go.Ab
section
variable {P : Program}
def okR (ρ : Nat → Nat) (nx pn : Nat) (h : Hz) : List (Nat × OV) → List Nat → Prop
 | [], [] => True
 | (c, o) :: r, n :: s => (Nat.blt c nx = true ∧ (Nat.blt c pn = true → n = c) ∧ notIn n s = true ∧ o.good nx = true ∧
   ∃ o', h.get n = some o' ∧ o'.toOb.ty = o.toOb.ty ∧ o'.toOb.k = o.toOb.k ∧ SubA (T.renL ρ o.toOb.l) o'.toOb.l) ∧ okR ρ nx pn h r s
 | _, _ => False
theorem hpL_zipR {ρ : Nat → Nat} {nx pn : Nat} {h : Hz} : ∀ {l : List (Nat × OV)} {s : List Nat}, okR ρ nx pn h l s → hpL (zipL l s) = (hzO l).toHp := by
 intro l
 induction l with
 | nil => intro s q; cases s with
  | nil => rfl
  | cons _ _ => exact q.elim
 | cons p r ih =>
  obtain ⟨c, o⟩ := p
  intro s q
  cases s with
  | nil => exact q.elim
  | cons n s =>
   simp only [zipL, hpL]
   have e : hzO ((c, o) :: r) = (c, some o) :: hzO r := rfl
   rw [e, toHp_put, ih q.2]; rfl
theorem okL_zipR {nx pn : Nat} {h : Hz} {Z : Nat → Prop} {ρ : Nat → Nat} : ∀ {l : List (Nat × OV)} {s : List Nat}, okR ρ nx pn h l s → okL Z ρ h.toHp nx pn (zipL l s) := by
 intro l
 induction l with
 | nil => intro s _; cases s <;> trivial
 | cons p r ih =>
  obtain ⟨c, o⟩ := p
  intro s q
  cases s with
  | nil => exact q.elim
  | cons n s =>
   obtain ⟨⟨q1, q2, q3, q4, o', q6, q7, q8, q9⟩, q⟩ := q
   obtain ⟨g1, g2⟩ := OV.good_ok q4
   refine ⟨⟨Nat.blt_eq.mp q1, fun hc => q2 (Nat.blt_eq.mpr hc), memL_zip q3, g1, g2, o'.toOb.l, ?_, ?_⟩, ih q⟩
   ·have := toHp_some q6
    show h.toHp n = some ⟨o.toOb.ty, o.toOb.k, o'.toOb.l⟩
    rw [this, ← q7, ← q8]
   ·exact q9 _ _
structure BackR {ι : Type} (inv : ι → Prop) (μ : ι → Nat) (vars : ι → Fm) (objs : ι → List (Nat × OV)) (base : Fm) (nx pn : Nat) (i : ι) (m : Fm) (h : Hz) : Prop where
 ok : ∃ j nw, inv j ∧ μ j < μ i ∧ sameR (nowN (objs j) nw) m (vars j) ∧ sameR (nowN (objs j) nw) m base ∧ okR (nowN (objs j) nw) nx pn h (objs j) nw
end
end Go.Ab
namespace Go.Ab
section
variable {P : Program}
def frzL (Z : Nat → Prop) (h : Hz) : Hz → Prop
 | [] => True
 | (_, none) :: r => frzL Z h r
 | (i, some o) :: r => (∃ o', h.get i = some o' ∧ ¬ Z i ∧ o'.toOb.ty = o.toOb.ty ∧ o'.toOb.k = o.toOb.k ∧ T.subL Z h.toHp o.toOb.l o'.toOb.l ∧ o.toOb.l.map T.kd = o'.toOb.l.map T.kd ∧ o.toOb.l.map isEnt = o'.toOb.l.map isEnt) ∧ frzL Z h r
def Frz (h h2 : Hz) : Prop := ∃ Z, frzL Z h h2
theorem frzL_get {Z : Nat → Prop} {h : Hz} : ∀ {h2 : Hz}, frzL Z h h2 → ∀ {i : Nat} {o : OV}, h2.get i = some o → ∃ o', h.get i = some o' ∧ ¬ Z i ∧ o'.toOb.ty = o.toOb.ty ∧ o'.toOb.k = o.toOb.k ∧ T.subL Z h.toHp o.toOb.l o'.toOb.l ∧ o.toOb.l.map T.kd = o'.toOb.l.map T.kd ∧ o.toOb.l.map isEnt = o'.toOb.l.map isEnt := by
 intro h2
 induction h2 with
 | nil => intro _ i o e; cases e
 | cons p r ih =>
  obtain ⟨j, u⟩ := p
  intro hf i o e
  simp only [Hz.get] at e
  cases u with
  | none =>
   cases hb : Nat.beq j i with
   | true => rw [hb] at e; cases e
   | false => rw [hb] at e; exact ih hf e
  | some u =>
   cases hb : Nat.beq j i with
   | true => rw [hb] at e; cases e; rw [← beqN hb]; exact hf.1
   | false => rw [hb] at e; exact ih hf.2 e
theorem Frz.wk {s s1 : AS} {fr : List T} {h h2 : Hz} {nx pn : Nat} (f : Frz h h2) (w : Wk s ⟨fr, h2.toHp, nx, pn⟩) : Wk s ⟨fr, h.toHp, nx, pn⟩ := by
 obtain ⟨Z, f⟩ := f
 obtain ⟨s1, w1, w2⟩ := w
 have F : FzBy Z ⟨fr, h2.toHp, nx, pn⟩ ⟨fr, h.toHp, nx, pn⟩ := by
  refine ⟨subL_refl _, fun i ob hi => ?_, rfl, rfl⟩
  simp only [Hz.toHp, Option.map_eq_some_iff] at hi
  obtain ⟨o, e1, rfl⟩ := hi
  obtain ⟨o', a1, a2, a3, a4, a5, a6, a7⟩ := frzL_get f e1
  exact ⟨o'.toOb, toHp_some a1, a2, a3, a4, a5, a6, a7⟩
 exact ⟨s1, w1.trans (.fz F (.refl _)), w2⟩
structure BackF {ι : Type} (inv : ι → Prop) (μ : ι → Nat) (vars : ι → Fm) (objs : ι → List (Nat × OV)) (base : Fm) (nx pn : Nat) (i : ι) (m : Fm) (h : Hz) : Prop where
 ok : ∃ h2 j nw, Frz h h2 ∧ inv j ∧ μ j < μ i ∧ sameR (nowN (objs j) nw) m (vars j) ∧ sameR (nowN (objs j) nw) m base ∧ okR (nowN (objs j) nw) nx pn h2 (objs j) nw
theorem LoopZ.objsF {N pn nx0 : Nat} (nx : Nat) {b : ACode} {Q : Qz} {m : Fm} {h : Hz} {ι : Type} (live : List Nat) (vars : ι → Fm) (objs : ι → List (Nat × OV)) (inv : ι → Prop) (μ : ι → Nat) (i0 : ι) (nw0 : List Nat) (h2 : Hz) (hd : dstOk N b = true) (hp : pn ≤ nx) (hv : ∀ i, ltF nx N (vars i) = true) (h0 : inv i0)
  (he : sameR (nowN (objs i0) nw0) m (vars i0)) (hf : Frz h h2) (ho : okR (nowN (objs i0) nw0) nx pn h2 (objs i0) nw0)
  (H : keepZ m live [] fun base => sameR (nowN (objs i0) nw0) m base ∧ ltF nx N base = true ∧ ∀ i, inv i → az P N pn b (fun e m' h' n' => match e with
   | .normal => BackF inv μ vars objs base nx pn i m' h'
   | e => Q e m' h' n') (vars i ++ base) (hzO (objs i)) nx) : LoopZ P N pn b Q m h nx0 := by
 obtain ⟨base, ⟨hbs, hb, H⟩, hbm⟩ := keepZ_inv H (fun i v q => by cases q)
 refine ⟨fun fr hl R => ?_⟩
 have hall : ∀ i j v, Fm.get j (vars i ++ base) = some v → T.lt nx v.toT = true ∧ j < N := fun i j v q => by
  rcases get_append q with q | q
  ·exact ltF_get (hv i) q
  ·exact ltF_get hb q
 have wk : ∀ (i : ι) (nw : List Nat) (m' : Fm) (h' h2' : Hz) (s' : AS), s'.fr.length = N → Rp m' s'.fr → s'.hp = h'.toHp → s'.pin = pn → Frz h' h2' → sameR (nowN (objs i) nw) m' (vars i) → sameR (nowN (objs i) nw) m' base → okR (nowN (objs i) nw) nx pn h2' (objs i) nw →
   Wk ⟨frOf N (vars i ++ base), (hzO (objs i)).toHp, nx, pn⟩ s' := by
  intro i nw m' h' h2' s' a1 a2 a3 a4 af a5 a6 a7
  obtain ⟨fr', hp', nx', pn'⟩ := s'
  simp only at a1 a2 a3 a4
  subst a3; subst a4
  refine af.wk (s1 := ⟨fr', h2'.toHp, nx', pn'⟩) ?_
  rw [← hpL_zipR a7]
  have e : nowL (zipL (objs i) nw) = nowN (objs i) nw := funext fun _ => nowL_zip
  refine Wk.objs (zipL (objs i) nw) (frOf_subR a1 a2 fun j v q => ?_) (frOf_ids fun j v q => (hall i j v q).1) hp (by rw [e]; exact okL_zipR a7)
  rw [e]
  rcases get_append q with q | q
  ·exact sameR_get a5 q
  ·exact sameR_get a6 q
 refine LoopA.rule (fun i => ⟨frOf N (vars i ++ base), (hzO (objs i)).toHp, nx, pn⟩) inv μ i0 h0 (wk i0 nw0 m h h2 _ hl R rfl rfl hf he hbs ho) ?_
 intro i hi
 have := az_sound (P := P) (N := N) (pn := pn) (s := ⟨frOf N (vars i ++ base), (hzO (objs i)).toHp, nx, pn⟩) hd frOf_len (frOf_rep fun j v q => (hall i j v q).2) rfl rfl (H i hi)
 refine aw_mono ?_ this
 rintro e s' ⟨m', h', a1, a2, a3, a4, a5⟩
 cases e with
 | normal =>
  obtain ⟨h2', j, nw, bf, b1, b2, b3, b4, b5⟩ := a5.ok
  exact ⟨j, ⟨b1, b2⟩, wk j nw m' h' h2' s' a1 a2 a3 a4 bf b3 b4 b5⟩
 | exit j => exact ⟨m', h', a1, a2, a3, a4, a5⟩
 | ret => exact ⟨m', h', a1, a2, a3, a4, a5⟩
theorem frz_same {Z : Nat → Prop} {h : Hz} {i : Nat} {o : OV} (e : h.get i = some o) (hz : ¬ Z i) : ∃ o', h.get i = some o' ∧ ¬ Z i ∧ o'.toOb.ty = o.toOb.ty ∧ o'.toOb.k = o.toOb.k ∧ T.subL Z h.toHp o.toOb.l o'.toOb.l ∧ o.toOb.l.map T.kd = o'.toOb.l.map T.kd ∧ o.toOb.l.map isEnt = o'.toOb.l.map isEnt :=
 ⟨o, e, hz, rfl, rfl, subL_refl _, rfl, rfl⟩
end
end Go.Ab
namespace Go.Ab
section
variable {P : Program}
structure TabAt (P : Program) (f : Nat) (o : Option FnX) : Prop where
 use : ∀ {b}, o = some b → ∃ fn c, P.funcs[f]? = some fn ∧ fn.body = some c ∧ comp P c = some b.code ∧ compRes P fn.results.toList = some b.rs ∧ callable P f ∧ fn.ntmps = b.nt
theorem TabAt.leaf {n f : Nat} {c : ACode} {rs : List RV} {nt : Nat} (B : Body P n c rs nt) : TabAt P f (bif Nat.beq f n then some ⟨c, rs, nt⟩ else none) := ⟨fun {b} h => by
 cases hb : Nat.beq f n with
 | false => rw [hb] at h; cases h
 | true =>
  rw [hb] at h; cases h
  have := nbeq hb; subst this
  obtain ⟨fn, c, h1, h2, h3, h4, h5⟩ := B.ex
  exact ⟨fn, c, h1, h2, h3, h4, B.cl, h5⟩⟩
theorem TabAt.node {f : Nat} {c : Bool} {x y : Option FnX} (hx : TabAt P f x) (hy : TabAt P f y) : TabAt P f (bif c then x else y) := ⟨fun {b} h => by
 cases c with
 | true => exact hx.use h
 | false => exact hy.use h⟩
end
end Go.Ab
namespace Go.Ab
section
variable {P : Program}
theorem grow_of {w w' : World} (hh : ∀ g, g < w.heap.size → w'.heap[g]? = w.heap[g]?) (hs : w.heap.size ≤ w'.heap.size) (ho : w'.os = w.os) (ht : w'.tape = w.tape) (hp : w'.output = w.output) (hd : w.drawn ≤ w'.drawn) :
  ∃ q os, w' = Sort.grow (w.drewN q) os := by
 refine ⟨w'.drawn - w.drawn, w'.heap.extract w.heap.size w'.heap.size, ?_⟩
 obtain ⟨h1, t1, d1, o1, p1⟩ := w
 obtain ⟨h2, t2, d2, o2, p2⟩ := w'
 simp only at hh hs ho ht hp hd
 subst ho ht hp
 simp only [Sort.grow, World.drewN]
 congr 1
 ·apply Array.ext_getElem?
  intro i
  rw [Array.getElem?_append]
  split
  ·rename_i hi; rw [hh i hi]
  ·rename_i hi
   simp only [Array.getElem?_extract]
   by_cases hi2 : i < h2.size
   ·rw [if_pos (by omega)]
    congr 1; omega
   ·rw [Array.getElem?_eq_none (by omega), if_neg (by omega)]
 ·omega
def El (E : Env) (l : List T) (k : Nat) : Type := { p : T × List Value // p.1 ∈ l ∧ repC E p.1 p.2 ∧ p.2.length = k ∧ ∀ v ∈ p.2, v.oneCell' = true }
theorem repRows_of {E : Env} {k : Nat} : ∀ {l : List T} {vs : List Value}, l.length * szK k ≤ vs.length → (∀ j t, l[j]? = some t → t.kd = k ∧ (∀ v ∈ (vs.drop (j * szK k)).take (szK k), v.oneCell' = true) ∧ repC E t ((vs.drop (j * szK k)).take (szK k))) → repRows E k l vs := by
 intro l
 induction l with
 | nil => intro vs _ _; trivial
 | cons t ts ih =>
  intro vs hl H
  simp only [List.length_cons, Nat.add_mul, Nat.one_mul] at hl
  obtain ⟨h1, h2, h3⟩ := H 0 t rfl
  simp only [Nat.zero_mul, List.drop_zero] at h2 h3
  refine ⟨h1, by omega, h2, h3, ih (by simp; omega) fun j u hj => ?_⟩
  have := H (j + 1) u (by simpa using hj)
  rw [List.drop_drop]
  rw [Nat.add_mul, Nat.one_mul, Nat.add_comm (j * szK k)] at this
  exact this
theorem tab_frozen {w : World} {g : Nat} {cur : Array Value} {ty : TypeId} (h : w.heap[g]? = some (.cells cur ty (0, 0))) (off : Nat) : w.frozen? ⟨g, off, none⟩ = false := by
 simp [World.frozen?, h]
open Go.Proofs in
set_option maxHeartbeats 1000000 in
theorem ACalls.sort {ρ : Shelf.Ren} (L : SlLaysF0.n6 P ρ) (k : Nat) (hk0 : 0 < k) (aE : ∀ w, (isAgg (ρ.t 24)).run P w = .ok true w) (zE : ∀ w, (Go.sizeOf (ρ.t 24)).run P w = .ok k w) (hcl : callable P (ρ.f 6))
  {g : Nat} (hg : g < 4096) (hgc : callable P g) {l : List T} (hne : l ≠ []) (hkd : ∀ t ∈ l, t.kd = k + 1) (hfree : T.freeL l = true) (hlen : l.length < 4611686018427387904) (cf : T → T → Int)
  (hirr : ∀ x ∈ l, ¬ cf x x < 0) (htr : ∀ x ∈ l, ∀ y ∈ l, ∀ z ∈ l, cf x y < 0 → cf y z < 0 → cf x z < 0) (hnt : ∀ x ∈ l, ∀ y ∈ l, ∀ z ∈ l, ¬ cf x y < 0 → ¬ cf y z < 0 → ¬ cf x z < 0)
  (hc : ∀ x ∈ l, ∀ y ∈ l, APure P g [x, y] (.int (cf x y))) (hkm : k + 1 ≠ mapK) (hex : ∃ l' : List T, l'.Perm l ∧ l'.Pairwise (fun a b => ¬ cf b a < 0)) {h : Hp} {i ty n : Nat} (hi : h i = some ⟨ty, k + 1, l⟩) :
  ACalls P (ρ.f 6) [.own i, .fn g []] h n fun t h' => t = .tup [] ∧ ∃ l', l'.Perm l ∧ l'.Pairwise (fun a b => ¬ cf b a < 0) ∧ h' = upd h i (some ⟨ty, k + 1, l'⟩) := by
 refine ⟨?_, hcl, fun F M E vs hk he hts hid hm hn => ?_⟩
 ·obtain ⟨l', h1, h2⟩ := hex
  exact ⟨_, _, rfl, l', h1, h2, rfl⟩
 subst he
 simp only [repVL_cons] at hts
 obtain ⟨v0, r0, rfl, hv0, v1, r1, rfl, hv1, hnil⟩ := hts
 simp only [repVL] at hnil
 subst hnil
 rw [repV_scalar rfl] at hv0 hv1
 simp only [repC] at hv0 hv1
 obtain ⟨u0, hu0, hlive⟩ := hv0
 obtain ⟨cs, hu1, hcs⟩ := hv1
 simp only [repCL] at hcs
 have hv0' : v0 = E.φ i := by have := hlive (by rw [hi]; rfl); simp only [List.cons.injEq, and_true] at hu0; rw [hu0, this]
 have hcs' : cs = #[] := Array.eq_empty_of_size_eq_zero (by simpa using congrArg List.length hcs)
 have hv1' : v1 = .func (.func g) #[] #[] := by simp only [List.cons.injEq, and_true] at hu1; rw [hu1, hcs', fnV_lt hg]
 obtain ⟨hob, hκ, hsz⟩ := hk.obs i _ hi
 have hrow := hob.row hkm
 rcases hrow with ⟨a, _, hl0⟩ | ⟨b, c, cur, hφ, hlc, hcm, hcell, hcsz, hrr⟩
 ·exact absurd hl0 hne
 simp only at hφ hlc hcell hcsz hrr
 have hszk : szK (k + 1) = k := rfl
 rw [hszk] at hcsz
 have hrb : rowB (E.φ i) = some b := by rw [hφ]; rfl
 obtain ⟨hbS, hbF⟩ := hk.out i _ b hi hrb
 have hblt : b < E.w.heap.size := hob.lt hrb
 subst hv0' hv1'
 have hlen0 : 0 < l.length := List.length_pos_iff.2 hne
 have hcur : l.length * k ≤ cur.toList.length := by
  have := repRows_length hrr; rw [hszk] at this; exact this
 have hget : ∀ j t, l[j]? = some t → repC E t ((cur.toList.drop (j * k)).take k) ∧ ((cur.toList.drop (j * k)).take k).length = k ∧ ∀ v ∈ (cur.toList.drop (j * k)).take k, v.oneCell' = true := by
  intro j t hj
  obtain ⟨hjl, rfl⟩ := List.getElem?_eq_some_iff.1 hj
  have := repRows_get hrr hjl
  rw [hszk] at this
  obtain ⟨h1, h2, h3, h4⟩ := this
  have hle : j * k + k ≤ cur.toList.length := by
   have : (j + 1) * k ≤ l.length * k := Nat.mul_le_mul_right _ hjl
   rw [Nat.add_mul, Nat.one_mul] at this; omega
  have hlen' : ((cur.toList.drop (j * k)).take k).length = k := by rw [List.length_take, List.length_drop]; omega
  have e : l.getD j .any = l[j] := by simp [hjl]
  rw [e] at h4
  exact ⟨h4, hlen', h3⟩
 let mkEl : (j : Fin l.length) → El E l k := fun j => ⟨(l[j], (cur.toList.drop (j * k)).take k), List.getElem_mem j.2, (hget j l[j] (List.getElem?_eq_getElem j.2)).1, (hget j l[j] (List.getElem?_eq_getElem j.2)).2.1, (hget j l[j] (List.getElem?_eq_getElem j.2)).2.2⟩
 haveI : Inhabited (El E l k) := ⟨mkEl ⟨0, hlen0⟩⟩
 let d : Array (El E l k) := Array.ofFn mkEl
 have hd : d.size = l.length := by simp [d]
 let enc : El E l k → List Value := fun p => p.1.2
 let cg : El E l k → El E l k → Int := fun p q => cf p.1.1 q.1.1
 have hO : Sort.SWO (ltOf cg) := {
  irrefl := fun x => by simp only [ltOf, cg]; exact decide_eq_false (hirr _ x.2.1)
  trans := fun x y z h1 h2 => by
   simp only [ltOf, cg, decide_eq_true_eq] at h1 h2 ⊢
   exact htr _ x.2.1 _ y.2.1 _ z.2.1 h1 h2
  ntrans := fun x y z h1 h2 => by
   simp only [ltOf, cg, decide_eq_false_iff_not] at h1 h2 ⊢
   exact hnt _ x.2.1 _ y.2.1 _ z.2.1 h1 h2 }
 have henc : ∀ x : El E l k, (enc x).length = k := fun x => x.2.2.2.1
 have hone : ∀ x : El E l k, ∀ v ∈ enc x, v.oneCell' = true := fun x => x.2.2.2.2
 have hsw : ∀ (m : Nat) (os : Array Obj) (dk : Array (El E l k)) (q : Nat), q < E.w.heap.size → q ≠ b → (sortWorldK enc k E.w b 0 m dk os).heap[q]? = E.w.heap[q]? := by
  intro m os dk q hq hqb
  unfold sortWorldK
  rw [Sort.heap_grow_old _ _ (by simpa [Sort.putRowK] using hq)]
  simp only [Sort.putRowK, Sort.putRow, Sort.mapBlock, Array.getElem?_modify]
  rw [if_neg (Ne.symm hqb)]; rfl
 have hsz' : ∀ (m : Nat) (os : Array Obj) (dk : Array (El E l k)), E.w.heap.size ≤ (sortWorldK enc k E.w b 0 m dk os).heap.size := by
  intro m os dk
  unfold sortWorldK
  rw [Sort.size_grow]; simp [Sort.putRowK]
 have hcmp : CmpLays P g #[] enc k cg b 0 d.size E.w := by
  intro m os dk hdk x y
  generalize hW : sortWorldK enc k E.w b 0 m dk os = W
  have hWb : ∀ q, q < E.w.heap.size → q ≠ b → W.heap[q]? = E.w.heap[q]? := fun q h1 h2 => by rw [← hW]; exact hsw m os dk q h1 h2
  have hWs : E.w.heap.size ≤ W.heap.size := by rw [← hW]; exact hsz' m os dk
  let E1 : Env := { w := W, S := E.S, φ := E.φ, κ := E.κ, h := no }
  let F1 : Fr P := ⟨fun q => q < W.heap.size ∧ ¬ E.S q⟩
  have hnS : ∀ q, E.S q → q < E.w.heap.size ∧ q ≠ b := fun q hq => ⟨hk.slt q hq, fun e => hbS (e ▸ hq)⟩
  have hk1 : HOk F1 E1 := by
   refine ⟨(fun i ob hi => by cases hi), (fun i ob g hi => by cases hi), (fun i j oi oj g _ hi => by cases hi), fun q hq => Nat.lt_of_lt_of_le (hk.slt q hq) hWs, fun q hq => hq.1, fun q hs hq => hq.2 hs, fun q cs hq => ?_⟩
   obtain ⟨h1, ty', m', h2⟩ := hk.gl q cs hq
   have hqb : q ≠ b := fun e => hbF (e ▸ h1)
   refine ⟨⟨Nat.lt_of_lt_of_le (hk.flt q h1) hWs, fun hs => hk.sf q hs h1⟩, ty', m', ?_⟩
   show W.heap[q]? = _
   rw [hWb q (hk.flt q h1) hqb]; exact h2
  have hkeep : Keeps E E1 (fun _ => False) := ⟨fun _ h => h, fun q hq => hWb q (hnS q hq).1 (hnS q hq).2, fun _ hf => hf.elim⟩
  have hrep : ∀ z : El E l k, repV E1 z.1.1 (.agg (enc z).toArray) := fun z => by
   have hzf : z.1.1.free = true := freeL_iff.1 hfree _ z.2.1
   have hzk := hkd _ z.2.1
   exact .inl ⟨by rw [hzk]; exact Nat.succ_ne_zero _, (enc z).toArray, rfl, by simpa using repC_mono _ _ hkeep (free_ids hzf) _ z.2.2.1⟩
  obtain ⟨_, _, hcall⟩ := (hc x.1.1 x.2.1 y.1.1 y.2.1).call 0
  have := hcall F1 (fun _ => False) E1 [.agg (enc x).toArray, .agg (enc y).toArray] hk1 rfl (by
   simp only [repVL_cons]; exact ⟨_, _, rfl, hrep x, _, _, rfl, hrep y, rfl⟩) (freeL_ids (hc x.1.1 x.2.1 y.1.1 y.2.1).free) (no_ids _) (fun h => h)
  refine (this.mono ?_)
  rintro e w' ⟨v, t, E2, rfl, rfl, ⟨rfl, _⟩, hv, _, hext, _⟩
  have hv' : v = .int .i64 (cg x y) := repV_lit.1 hv
  refine ⟨by rw [hv'], ?_⟩
  refine grow_of (fun q hq => hext.w q ?_) hext.size hext.os hext.tape hext.output hext.dr
  by_cases hs : E.S q
  ·exact .inl hs
  ·exact .inr ⟨hq, hs⟩
 have hdj : ∀ j, j < l.length → enc d[j]! = (cur.toList.drop (j * k)).take k := by
  intro j hj
  rw [getElem!_pos d j (by rw [hd]; exact hj)]
  show (((Array.ofFn mkEl)[j]'(by simpa using hj)).1.2) = _
  rw [Array.getElem_ofFn]
 have hH : Sort.HoldsK enc k E.w b 0 d := by
  intro t ht
  rw [Sort.size_flatK, hd] at ht
  refine ⟨?_, tab_frozen hcell _⟩
  have hq : t / k < l.length := Nat.div_lt_of_lt_mul (by rw [Nat.mul_comm]; exact ht)
  have hr : t % k < k := Nat.mod_lt _ hk0
  rw [Sort.get_flatK _ _ _ _ (by rw [hd]; exact ht), hdj _ hq, Nat.zero_add]
  have hdm : t / k * k + t % k = t := by rw [Nat.mul_comm]; exact Nat.div_add_mod t k
  have htc : t < cur.size := by simp at hcur; omega
  have hle : t / k * k + k ≤ cur.toList.length := by
   have : (t / k + 1) * k ≤ l.length * k := Nat.mul_le_mul_right _ hq
   rw [Nat.add_mul, Nat.one_mul] at this; omega
  have hlt : t % k < ((cur.toList.drop (t / k * k)).take k).length := by rw [List.length_take, List.length_drop]; omega
  rw [getElem!_pos ((cur.toList.drop (t / k * k)).take k) (t % k) hlt]
  simp only [World.cell?, hcell]
  rw [List.getElem_take, List.getElem_drop]
  simp [hdm, htc]
 have hcon := AnyQ.slices_SortFunc L k aE zE enc henc hone cg hO g #[] b 0 (c + 1) d E.w hgc hcmp hH hblt (by rw [hd]; exact hlen)
 have hargs : ([E.φ i, Value.func (.func g) #[] #[]] : List Value).toArray = #[.slice (some ⟨b, 0, none⟩) d.size (c + 1), .func (.func g) #[] #[]] := by
  rw [hφ, hd]
 rw [hargs]
 refine hcon.mono ?_
 rintro e w' ⟨rfl, d', nn, os, hperm, hsort, hw⟩
 have hd' : d'.size = l.length := by rw [hperm.1, hd]
 let l' : List T := d'.toList.map fun p => p.1.1
 have hl' : l'.length = l.length := by simp [l', hd']
 have hdl : d.toList.map (fun p => p.1.1) = l := by
  apply List.ext_getElem
  ·simp [hd]
  ·intro j h1 h2
   rw [List.getElem_map]
   have hj : j < l.length := h2
   show ((Array.ofFn mkEl).toList[j]'(by simpa using hj)).1.1 = l[j]
   rw [Array.getElem_toList, Array.getElem_ofFn]; rfl
 have hp : l'.Perm l := by
  have := hperm.2.2
  have e1 : (d'.extract 0 d.size) = d' := by rw [hd, ← hd']; simp
  have e2 : (d.extract 0 d.size) = d := by simp
  rw [e1, e2] at this
  have := this.map (fun p : El E l k => p.1.1)
  rw [hdl] at this; exact this
 have hpw : l'.Pairwise (fun a b => ¬ cf b a < 0) := by
  rw [List.pairwise_iff_getElem]
  intro x y hx hy hxy
  simp only [l', List.getElem_map, Array.getElem_toList]
  have hx' : x < d'.size := by simpa [l'] using hx
  have hy' : y < d'.size := by simpa [l'] using hy
  have := hsort x y (Nat.zero_le _) hxy (by rw [hd, ← hd']; exact hy')
  rw [getElem!_pos d' x hx', getElem!_pos d' y hy'] at this
  simpa [ltOf, cg] using this
 let F' : Array Value := Sort.flatK enc k d'
 have hF' : F'.size = l.length * k := by simp [F', hd']
 let cs' : Array Value := Sort.putCells id 0 F' cur
 have hcs'sz : cs'.size = cur.size := by simp [cs', Sort.putCells]
 have hcell' : w'.heap[b]? = some (.cells cs' ty (0, 0)) := by
  rw [hw]
  unfold sortWorldK
  rw [Sort.heap_grow_old _ _ (by simpa [Sort.putRowK] using hblt)]
  simp only [Sort.putRowK, Sort.putRow, Sort.mapBlock, Array.getElem?_modify]
  rw [if_pos trivial]
  show (E.w.heap[b]?).map _ = _
  rw [hcell]; rfl
 have hold' : ∀ q, q < E.w.heap.size → q ≠ b → w'.heap[q]? = E.w.heap[q]? := fun q h1 h2 => by rw [hw]; exact hsw nn os d' q h1 h2
 have hsize' : E.w.heap.size ≤ w'.heap.size := by rw [hw]; exact hsz' nn os d'
 let E' : Env := { w := w', S := E.S, φ := E.φ, κ := E.κ, h := upd E.h i (some ⟨ty, k + 1, l'⟩) }
 have hlf : T.freeL l' = true := by
  rw [freeL_iff] at hfree ⊢
  exact fun t ht => hfree t (hp.mem_iff.1 ht)
 have hext : Ext F E E' := by
  refine ⟨fun _ h => h, fun q hq => hold' q ?_ ?_, hsize', by show w'.os = _; rw [hw]; rfl, by show w'.tape = _; rw [hw]; rfl, by show w'.output = _; rw [hw]; rfl, by show _ ≤ w'.drawn; rw [hw]; exact Nat.le_add_right _ _⟩
  ·rcases hq with hq | hq
   ·exact hk.slt q hq
   ·exact hk.flt q hq
  ·rintro rfl
   rcases hq with hq | hq
   ·exact hbS hq
   ·exact hbF hq
 have hS : Same E E' M := by
  intro j _ hj
  refine ⟨?_, rfl, rfl⟩
  by_cases hji : j = i
  ·subst hji; rw [hi]; rfl
  ·simpa [E', upd, hji] using hj
 have hK : Keeps E E' M := .of hext hS
 have hrr' : repRows E' (k + 1) l' cs'.toList := by
  refine repRows_of (by rw [hszk, hl']; simp only [Array.length_toList, hcs'sz]; simpa using hcur) fun j t hj => ?_
  rw [hszk]
  obtain ⟨hjl, rfl⟩ := List.getElem?_eq_some_iff.1 hj
  have hjl' : j < d'.size := by simpa [l'] using hjl
  have ht : l'[j] = (d'[j]'hjl').1.1 := by simp [l']
  have hcells : (cs'.toList.drop (j * k)).take k = enc d'[j] := by
   have hle : j * k + k ≤ l.length * k := by
    have : (j + 1) * k ≤ l.length * k := Nat.mul_le_mul_right _ (by rw [← hd']; exact hjl')
    rw [Nat.add_mul, Nat.one_mul] at this; exact this
   have hcurs : l.length * k ≤ cur.size := by simpa using hcur
   apply List.ext_getElem
   ·rw [List.length_take, List.length_drop, henc]; simp only [Array.length_toList, hcs'sz]; omega
   ·intro x hx1 hx2
    rw [henc] at hx2
    rw [List.getElem_take, List.getElem_drop, Array.getElem_toList]
    have hin : j * k + x < F'.size := by rw [hF']; omega
    show (Sort.putCells id 0 F' cur)[j * k + x]'_ = _
    simp only [Sort.putCells, Array.getElem_mapIdx, Nat.zero_le, true_and, Nat.zero_add, Nat.sub_zero]
    rw [if_pos hin]
    show F'[j * k + x]! = _
    show (Sort.flatK enc k d')[j * k + x]! = _
    rw [Sort.get_flatK _ _ _ _ (by rw [hd']; omega)]
    have e1 : (j * k + x) / k = j := by rw [Nat.mul_comm, Nat.mul_add_div hk0, Nat.div_eq_of_lt hx2, Nat.add_zero]
    have e2 : (j * k + x) % k = x := by rw [Nat.mul_comm, Nat.mul_add_mod, Nat.mod_eq_of_lt hx2]
    rw [e1, e2, getElem!_pos d' j hjl', getElem!_pos _ x (by rw [henc]; exact hx2)]
  rw [hcells, ht]
  refine ⟨hkd _ d'[j].2.1, hone _, ?_⟩
  exact repC_mono _ _ hK (T.ids_weaken (fun _ h => h.elim) _ (free_ids (freeL_iff.1 hfree _ d'[j].2.1))) _ d'[j].2.2.1
 have hob' : ObOk E' ⟨ty, k + 1, l'⟩ (E.φ i) := by
  refine .inl ⟨hkm, .inr ⟨b, c, cs', by rw [hφ]; simp only [hl'], by simp only [hl']; exact hlc, hcm, hcell', by rw [hcs'sz]; exact hcsz, hrr'⟩⟩
 have hhm : idsH M E.h := hm
 refine ⟨.tuple #[], .tup [], E', rfl, rfl, ⟨rfl, l', hp, hpw, rfl⟩, ?_, ?_, hext, hS, by simp [T.ids, T.idsL], ?_⟩
 ·rw [repV_scalar rfl]; simp only [repC]; exact ⟨#[], rfl, rfl⟩
 ·have hsome : ∀ j oj, E'.h j = some oj → ∃ oj', E.h j = some oj' := fun j oj hj => by
   by_cases hji : j = i
   ·subst hji; exact ⟨_, hi⟩
   ·exact ⟨oj, by simpa [E', upd, hji] using hj⟩
  refine ⟨fun j oj hj => ?_, fun j oj q hj hq => ?_, fun j j' oj oj' q hjj hj hj' hq hq' => ?_, fun q hq => Nat.lt_of_lt_of_le (hk.slt q hq) hsize', fun q hq => Nat.lt_of_lt_of_le (hk.flt q hq) hsize', hk.sf, hext.gl hk⟩
  ·by_cases hji : j = i
   ·subst hji
    have : oj = ⟨ty, k + 1, l'⟩ := by simpa [E', upd] using hj.symm
    subst this
    exact ⟨hob', hκ, hsz⟩
   ·have hj0 : E.h j = some oj := by simpa [E', upd, hji] using hj
    obtain ⟨k1, k2, k3⟩ := hk.obs j oj hj0
    refine ⟨k1.keep hK (hhm j oj hj0).2 fun q hq => hold' q (k1.lt hq) ?_, k2, k3⟩
    rintro rfl
    exact hk.sep j i oj _ q hji hj0 hi hq hrb
  ·obtain ⟨oj', hj0⟩ := hsome j oj hj
   exact hk.out j oj' q hj0 hq
  ·obtain ⟨o1, h1⟩ := hsome j oj hj
   obtain ⟨o2, h2⟩ := hsome j' oj' hj'
   exact hk.sep j j' o1 o2 q hjj h1 h2 hq hq'
 ·intro j oj hj
  by_cases hji : j = i
  ·subst hji
   have : oj = ⟨ty, k + 1, l'⟩ := by simpa [E', upd] using hj.symm
   subst this
   exact ⟨.inl (hhm j _ hi).1, T.idsL_weaken (fun _ h => h.elim) _ (freeL_ids hlf)⟩
  ·have hj0 : E.h j = some oj := by simpa [E', upd, hji] using hj
   exact ⟨.inl (hhm j oj hj0).1, T.idsL_weaken (fun _ h => .inl h) _ (hhm j oj hj0).2⟩
end
end Go.Ab
namespace Go.Ab
section
variable {P : Program} {H : Type} {enc : TypeId × Value → H}
inductive Sh where
 | int
 | str
 | bool
 | sl (k : Nat) (s : Sh)
 | st (l : List Sh)
mutual
def Sh.cells : Sh → Nat
 | .st l => Sh.cellsL l
 | _ => 1
def Sh.cellsL : List Sh → Nat
 | [] => 0
 | s :: l => s.cells + Sh.cellsL l
end
def Sh.kd : Sh → Nat
 | .st l => Sh.cellsL l + 1
 | _ => 0
mutual
def Sh.fits (P : Program) : Sh → TypeId → Bool
 | .int, t => match P.underlying t with | some (.int .i64) => true | _ => false
 | .str, t => match P.underlying t with | some .string => true | _ => false
 | .bool, t => match P.underlying t with | some .bool => true | _ => false
 | .sl k s, t => match P.underlying t with
  | some (.slice e) => s.fits P e && Nat.beq s.kd k && Nat.beq (P.cellsOf e) s.cells && Nat.blt 0 s.cells
  | _ => false
 | .st l, t => match P.underlying t with
  | some (.struct fs) => Sh.fitsL P l fs.toList 0 && Nat.beq (P.cellsOf t) (Sh.cellsL l)
  | _ => false
def Sh.fitsL (P : Program) : List Sh → List Field → Nat → Bool
 | [], [], _ => true
 | s :: l, f :: fs, off => s.fits P f.type && Nat.beq f.offset off && Nat.beq (P.cellsOf f.type) s.cells && Sh.fitsL P l fs (off + s.cells)
 | _, _, _ => false
end
mutual
def Sh.toT : Sh → DataW H → T
 | .int, .lit (.int _ n) => .int n
 | .str, .lit (.string l) => .lit (.string ⟨l.toArray⟩)
 | .bool, .lit (.bool b) => .bool b
 | .sl k s, .slice es _ => .sl k false (es.map s.toT)
 | .sl k _, .nil => .sl k false []
 | .st l, .agg ds => .agg (Sh.toTL l ds)
 | _, _ => .any
def Sh.toTL : List Sh → List (DataW H) → List T
 | s :: l, d :: ds => (s.toT d).cells ++ Sh.toTL l ds
 | _, _ => []
end
def notU8 (v : Value) : Prop := ∀ n, v ≠ .int .u8 n
mutual
def Sh.wf : Sh → DataW H → Prop
 | .int, d => ∃ n, d = .lit (.int .i64 n) ∧ (Lit.int .i64 n).wf = true
 | .str, d => ∃ l, d = .lit (.string l)
 | .bool, d => ∃ b, d = .lit (.bool b)
 | .sl _ s, d => d = .nil ∨ ∃ es sp, d = .slice es sp ∧ ∀ x ∈ es, s.wf x
 | .st l, d => ∃ ds, d = .agg ds ∧ Sh.wfL l ds
def Sh.wfL : List Sh → List (DataW H) → Prop
 | [], ds => ds = []
 | s :: l, ds => ∃ d r, ds = d :: r ∧ s.wf d ∧ Sh.wfL l r
end
structure Rd (E : Env) (s : Sh) (d : DataW H) (cs : List Value) : Prop where
 rep : repC E (s.toT d) cs
 len : cs.length = s.cells
 one : ∀ v ∈ cs, v.oneCell' = true
 u8 : ∀ v ∈ cs, notU8 v
 free : (s.toT d).free = true
 kd : (s.toT d).kd = s.kd
 wf : s.wf d
structure RdL (E : Env) (l : List Sh) (ds : List (DataW H)) (cs : List Value) : Prop where
 rep : repCL E (Sh.toTL l ds) cs
 len : cs.length = Sh.cellsL l
 one : ∀ v ∈ cs, v.oneCell' = true
 u8 : ∀ v ∈ cs, notU8 v
 free : T.freeL (Sh.toTL l ds) = true
 cnt : (Sh.toTL l ds).length = Sh.cellsL l
 wf : Sh.wfL l ds
theorem repCL_app {E : Env} : ∀ {a b : List T} {x y : List Value}, repCL E a x → repCL E b y → repCL E (a ++ b) (x ++ y) := by
 intro a
 induction a with
 | nil => intro b x y h1 h2; simp only [repCL] at h1; subst h1; exact h2
 | cons t a ih =>
  intro b x y h1 h2
  simp only [repCL] at h1
  obtain ⟨hk, v, r, rfl, h3, h4, h5⟩ := h1
  simp only [List.cons_append, repCL]
  exact ⟨hk, v, r ++ y, rfl, h3, h4, ih h5 h2⟩
theorem freeL_app {a b : List T} (ha : T.freeL a = true) (hb : T.freeL b = true) : T.freeL (a ++ b) = true := by
 rw [freeL_iff] at *
 intro t ht
 rcases List.mem_append.1 ht with h | h
 ·exact ha t h
 ·exact hb t h
theorem repCL_cells {E : Env} {t : T} {cs : List Value} (h : repC E t cs) (hl : t.kd = 0 → cs.length = 1) (h1 : ∀ v ∈ cs, v.oneCell' = true) : repCL E t.cells cs := by
 have other : ∀ t : T, t.cells = [t] → t.kd = 0 → repC E t cs → (t.kd = 0 → cs.length = 1) → repCL E t.cells cs := by
  intro t e k h hl
  rw [e]
  have := hl k
  match cs, this with
  | [v], _ => simp only [repCL]; exact ⟨k, v, [], rfl, h1 v (by simp), h, rfl⟩
 cases t with
 | agg l => simp only [repC] at h; exact h
 | _ => exact other _ rfl rfl h hl
theorem cells_free {t : T} (h : t.free = true) : T.freeL t.cells = true := by
 cases t with
 | agg l => exact h
 | _ => simp only [T.cells, T.freeL, Bool.and_true]; exact h
theorem cells_len {t : T} : t.cells.length = szK t.kd := by
 cases t with
 | agg l => rfl
 | _ => rfl
theorem Sh.szK_kd (s : Sh) : szK s.kd = s.cells := by
 cases s <;> rfl
theorem cell?_at {w : World} {a : Addr} {v : Value} (h : w.cell? a = some v) : ∃ cur ty m, w.heap[a.block]? = some (.cells cur ty m) ∧ a.spot = none ∧ cur.toList[a.off]? = some v := by
 unfold World.cell? at h
 split at h
 ·rename_i c t f e
  split at h
  ·cases h
  ·rename_i hs
   exact ⟨c, t, f, e, by simpa using hs, by simpa using h⟩
 ·cases h
theorem cells?_at {w : World} {base : Nat} {a : Addr} {n : Nat} {cs : List Value} (h : w.cells? base a n = some cs) (hn : 0 < n) : ∃ cur ty m, w.heap[a.block]? = some (.cells cur ty m) ∧ a.spot = none ∧ cs = (cur.toList.drop a.off).take n := by
 obtain ⟨_, hl, hc⟩ := World.cells?_some h
 have h0 := hc 0 hn
 have e0 : a.add 0 = a := by simp [Addr.add]
 rw [e0, List.getElem?_eq_getElem (by omega)] at h0
 obtain ⟨cur, ty, m, h1, h2, _⟩ := cell?_at h0
 refine ⟨cur, ty, m, h1, h2, ?_⟩
 have key : ∀ j, j < n → cur.toList[a.off + j]? = cs[j]? := by
  intro j hj
  have := hc j hj
  rw [List.getElem?_eq_getElem (by omega)] at this
  obtain ⟨cur', ty', m', g1, g2, g3⟩ := cell?_at this
  have eb : (a.add j).block = a.block := by unfold Addr.add; split <;> rfl
  have eo : (a.add j).off = a.off + j := by
   obtain ⟨b, o, sp⟩ := a
   simp only at h2; subst h2
   rw [Go.WideShapes.add_plain]
  rw [eb, h1] at g1
  cases g1
  rw [eo] at g3
  rw [g3, List.getElem?_eq_getElem (by omega)]
 apply List.ext_getElem?
 intro j
 by_cases hj : j < n
 ·rw [List.getElem?_take, if_pos hj, List.getElem?_drop, key j hj]
 ·rw [List.getElem?_eq_none (by omega), List.getElem?_eq_none (by simp; omega)]
def CanRead (E : Env) : Prop := ∀ b cur ty m, E.w.heap[b]? = some (.cells cur ty m) → (∃ v ∈ cur.toList, notU8 v) → E.S b
theorem rd_slice {E : Env} {s : Sh} {k : Nat} {base : Nat} {spare : Nat → Bool} {held : Bool} (hS : CanRead E) {t e : TypeId} (ht : P.underlying t = some (.slice e)) (hk : s.kd = k) (hce : P.cellsOf e = s.cells) (hpos : 0 < s.cells)
  (ih : ∀ (n : Nat) (cs : List Value) (d : DataW H) (ps : List MemPlace), DataW.trod enc P E.w base spare held n e cs = some (d, ps) → Rd E s d cs)
  {n : Nat} {cs : List Value} {d : DataW H} {ps : List MemPlace} (h : DataW.trod enc P E.w base spare held n t cs = some (d, ps)) : Rd E (.sl k s) d cs := by
 rcases DataW.trod_slice ht h with ⟨rfl, hx⟩ | ⟨a, len, cap, elems, rest, m, _, rfl, hx, hb, hl, hm, hlen, hel, _, _⟩
 ·cases hx
  refine ⟨?_, rfl, (fun v hv => by rw [List.mem_singleton] at hv; subst hv; rfl), (fun v hv => by rw [List.mem_singleton] at hv; subst hv; intro n e; cases e), rfl, rfl, .inl rfl⟩
  simp only [Sh.toT, repC]
  exact ⟨none, 0, rfl, Nat.le_refl _, nofun, .inl trivial⟩
 ·cases hx
  have hlen' : (elems.map (·.1)).length = len := by simpa using hlen
  refine ⟨?_, rfl, (fun v hv => by rw [List.mem_singleton] at hv; subst hv; rfl), (fun v hv => by rw [List.mem_singleton] at hv; subst hv; intro n e; cases e), rfl, rfl, .inr ⟨_, _, rfl, fun x hx => ?_⟩⟩
  rotate_left
  ·obtain ⟨y, hy, rfl⟩ := List.mem_map.1 hx
   obtain ⟨i, hi, rfl⟩ := List.getElem_of_mem hy
   have := hel i (by omega)
   rw [List.getElem?_eq_getElem hi] at this
   obtain ⟨cs', _, h2⟩ := Option.bind_eq_some_iff.1 this
   exact (ih _ _ _ _ h2).wf
  simp only [Sh.toT, repC, List.length_map]
  refine ⟨some a, cap, by rw [hlen], by omega, nofun, ?_⟩
  by_cases h0 : len = 0
  ·left
   have : elems = [] := List.length_eq_zero_iff.1 (by omega)
   rw [this]; rfl
  ·right
   have get : ∀ i, i < len → ∃ cs', E.w.cells? base (a.add (i * s.cells)) s.cells = some cs' ∧ ∃ x, elems[i]? = some x ∧ Rd E s x.1 cs' := by
    intro i hi
    have := hel i hi
    rw [hce, List.getElem?_eq_getElem (by omega)] at this
    obtain ⟨cs', h1, h2⟩ := Option.bind_eq_some_iff.1 this
    exact ⟨cs', h1, elems[i], List.getElem?_eq_getElem (by omega), ih _ _ _ _ h2⟩
   obtain ⟨cs0, c1, x0, _, r0⟩ := get 0 (by omega)
   obtain ⟨cur, ty, mm, g1, g2, g3⟩ := cells?_at c1 hpos
   have ea : a.add (0 * s.cells) = a := by simp [Addr.add]
   rw [ea] at g1 g2 g3
   obtain ⟨b, off, sp⟩ := a
   simp only at g1 g2 g3
   subst g2
   have hsub : ∀ i, i < len → ∃ x, elems[i]? = some x ∧ Rd E s x.1 ((cur.toList.drop (off + i * s.cells)).take s.cells) := by
    intro i hi
    obtain ⟨cs', q1, x, q2, q3⟩ := get i hi
    obtain ⟨cur', ty', m', k1, k2, k3⟩ := cells?_at q1 hpos
    rw [Go.WideShapes.add_plain] at k1 k3
    simp only at k1 k3
    rw [g1] at k1; cases k1
    rw [k3] at q3
    exact ⟨x, q2, q3⟩
   have hcur : len * s.cells ≤ (cur.toList.drop off).length := by
    obtain ⟨x, _, q⟩ := hsub (len - 1) (by omega)
    have := q.len
    rw [List.length_take, List.length_drop] at this
    rw [List.length_drop]
    have e : len * s.cells = (len - 1) * s.cells + s.cells := by
     conv => lhs; rw [show len = (len - 1) + 1 by omega, Nat.add_mul, Nat.one_mul]
    omega
   refine ⟨b, off, cur, ty, mm, rfl, hS b cur ty mm g1 ?_, g1, ?_, ?_⟩
   ·have hl0 := r0.len
    match hcs : cs0, hl0 with
    | [], hl0 => simp at hl0; omega
    | v :: r, _ =>
     refine ⟨v, ?_, r0.u8 v (by simp)⟩
     have : v ∈ (cur.toList.drop off).take s.cells := by rw [← g3]; simp
     exact List.mem_of_mem_drop (List.mem_of_mem_take this)
   ·rw [idsL_iff]
    intro t ht
    rw [List.mem_map] at ht
    obtain ⟨d, hd, rfl⟩ := ht
    rw [List.mem_map] at hd
    obtain ⟨x, hx, rfl⟩ := hd
    obtain ⟨i, hi, rfl⟩ := List.getElem_of_mem hx
    obtain ⟨x', q1, q2⟩ := hsub i (by omega)
    rw [List.getElem?_eq_getElem hi] at q1
    cases q1
    exact free_ids q2.free
   ·refine repRows_of (by rw [List.length_map, List.length_map, hlen, ← hk, Sh.szK_kd]; exact hcur) fun j t hj => ?_
    rw [← hk, Sh.szK_kd]
    have hjl : j < len := by
     rcases Nat.lt_or_ge j len with h | h
     ·exact h
     ·rw [List.getElem?_eq_none (by simp; omega)] at hj; cases hj
    obtain ⟨x, q1, q2⟩ := hsub j hjl
    rw [List.getElem?_map, List.getElem?_map, q1] at hj
    simp only [Option.map_some, Option.some.injEq] at hj
    subst hj
    rw [List.drop_drop]
    exact ⟨q2.kd, q2.one, q2.rep⟩
mutual
theorem Sh.read {E : Env} {base : Nat} {spare : Nat → Bool} {held : Bool} (hS : CanRead E) : (s : Sh) → (t : TypeId) → s.fits P t = true → (n : Nat) → (cs : List Value) → (d : DataW H) → (ps : List MemPlace) →
  DataW.trod enc P E.w base spare held n t cs = some (d, ps) → Rd E s d cs
 | .int, t, hf, n, cs, d, ps, h => by
  simp only [Sh.fits] at hf
  split at hf
  ·rename_i e
   obtain ⟨z, rfl, hx, hwf⟩ := DataW.trod_int e h
   cases hx
   refine ⟨by simp [Sh.toT, repC], rfl, (fun v hv => by rw [List.mem_singleton] at hv; subst hv; rfl), (fun v hv => by rw [List.mem_singleton] at hv; subst hv; intro n e; cases e), rfl, rfl, ⟨z, rfl, hwf⟩⟩
  ·cases hf
 | .str, t, hf, n, cs, d, ps, h => by
  simp only [Sh.fits] at hf
  split at hf
  ·rename_i e
   obtain ⟨z, rfl, hx, _⟩ := DataW.trod_string e h
   cases hx
   refine ⟨by simp [Sh.toT, repC], rfl, (fun v hv => by rw [List.mem_singleton] at hv; subst hv; rfl), (fun v hv => by rw [List.mem_singleton] at hv; subst hv; intro n e; cases e), rfl, rfl, ⟨_, rfl⟩⟩
  ·cases hf
 | .bool, t, hf, n, cs, d, ps, h => by
  simp only [Sh.fits] at hf
  split at hf
  ·rename_i e
   obtain ⟨z, rfl, hx⟩ := DataW.trod_bool e h
   cases hx
   refine ⟨by simp [Sh.toT, repC], rfl, (fun v hv => by rw [List.mem_singleton] at hv; subst hv; rfl), (fun v hv => by rw [List.mem_singleton] at hv; subst hv; intro n e; cases e), rfl, rfl, ⟨_, rfl⟩⟩
  ·cases hf
 | .sl k s, t, hf, n, cs, d, ps, h => by
  simp only [Sh.fits] at hf
  split at hf
  ·rename_i e he
   simp only [Bool.and_eq_true] at hf
   obtain ⟨⟨⟨f1, f2⟩, f3⟩, f4⟩ := hf
   exact rd_slice hS he (Nat.eq_of_beq_eq_true f2) (Nat.eq_of_beq_eq_true f3) (Nat.blt_eq.mp f4) (Sh.read hS s e f1) h
  ·cases hf
 | .st l, t, hf, n, cs, d, ps, h => by
  simp only [Sh.fits] at hf
  split at hf
  ·rename_i fs he
   simp only [Bool.and_eq_true] at hf
   obtain ⟨xs, m, _, hx, hlen, hxl, hg⟩ := DataW.trod_struct he h
   cases hx
   have hct := Nat.eq_of_beq_eq_true hf.2
   have R := Sh.readL hS l fs.toList 0 hf.1 m cs xs (by simpa using hxl) (fun i f hi => by
    have := hg i f (by simpa using hi)
    rw [← this]) (by rw [hlen, hct]; simp)
   simp only [List.drop_zero] at R
   refine ⟨by simp only [Sh.toT, repC]; exact R.rep, by rw [hlen, hct]; rfl, R.one, R.u8, R.free, ?_, ⟨_, rfl, R.wf⟩⟩
   show (Sh.toTL l _).length + 1 = Sh.cellsL l + 1
   rw [R.cnt]
  ·cases hf
theorem Sh.readL {E : Env} {base : Nat} {spare : Nat → Bool} {held : Bool} (hS : CanRead E) : (l : List Sh) → (fs : List Field) → (off : Nat) → Sh.fitsL P l fs off = true → (n : Nat) → (cs : List Value) → (xs : List (DataW H × List MemPlace)) → xs.length = fs.length →
  (∀ (i : Nat) (f : Field), fs[i]? = some f → DataW.trod enc P E.w base spare held n f.type ((cs.drop f.offset).take (P.cellsOf f.type)) = xs[i]?) → cs.length = off + Sh.cellsL l → RdL E l (xs.map (·.1)) (cs.drop off)
 | [], [], off, hf, n, cs, xs, hl, hx, hc => by
  have : xs = [] := List.length_eq_zero_iff.1 (by simpa using hl)
  subst this
  have : cs.drop off = [] := List.drop_eq_nil_of_le (by rw [hc]; simp [Sh.cellsL])
  rw [this]
  exact ⟨rfl, rfl, (fun v hv => by cases hv), (fun v hv => by cases hv), rfl, rfl, rfl⟩
 | s :: l, f :: fs, off, hf, n, cs, xs, hl, hx, hc => by
  simp only [Sh.fitsL, Bool.and_eq_true] at hf
  obtain ⟨⟨⟨f1, f2⟩, f3⟩, f4⟩ := hf
  have e2 := Nat.eq_of_beq_eq_true f2
  have e3 := Nat.eq_of_beq_eq_true f3
  match xs, hl with
  | x :: xs, hl =>
   have h0 := hx 0 f rfl
   rw [e2, e3] at h0
   have R0 := Sh.read hS s f.type f1 n _ x.1 x.2 h0
   simp only [Sh.cellsL] at hc
   have R1 := Sh.readL hS l fs (off + s.cells) f4 n cs xs (by simpa using hl) (fun i g hi => by
    have := hx (i + 1) g (by simpa using hi)
    simpa using this) (by omega)
   have e : cs.drop off = (cs.drop off).take s.cells ++ cs.drop (off + s.cells) := by
    rw [← List.drop_drop, List.take_append_drop]
   rw [e]
   have h1 : (s.toT x.1).kd = 0 → ((cs.drop off).take s.cells).length = 1 := by
    intro hk
    rw [R0.len, ← Sh.szK_kd, ← R0.kd, hk]; rfl
   refine ⟨?_, ?_, ?_, ?_, ?_, ?_, ⟨_, _, rfl, R0.wf, R1.wf⟩⟩
   ·simp only [List.map_cons, Sh.toTL]
    exact repCL_app (repCL_cells R0.rep h1 R0.one) R1.rep
   ·rw [List.length_append, R0.len, R1.len]; rfl
   ·intro v hv
    rcases List.mem_append.1 hv with h | h
    ·exact R0.one v h
    ·exact R1.one v h
   ·intro v hv
    rcases List.mem_append.1 hv with h | h
    ·exact R0.u8 v h
    ·exact R1.u8 v h
   ·simp only [List.map_cons, Sh.toTL]
    exact freeL_app (cells_free R0.free) R1.free
   ·simp only [List.map_cons, Sh.toTL, List.length_append, cells_len, R0.kd, Sh.szK_kd, R1.cnt]; rfl
 | [], _ :: _, _, hf, _, _, _, _, _, _ => by simp [Sh.fitsL] at hf
 | _ :: _, [], _, hf, _, _, _, _, _, _ => by simp [Sh.fitsL] at hf
end
end
end Go.Ab
namespace Go.Ab
open Go.ChangeShapes Go.WideShapes Go.RowKit
section
variable {P : Program} {H : Type} {enc : TypeId × Value → H}
theorem gl_of_tab {W : World} (h : Lib.TabIs P W "strings.asciiSpace" .u8 Lib.asciiSpaceTab) : ∀ g cs, glOf P g = some cs → ∃ ty m, W.heap[g]? = some (.cells cs ty m) := by
 intro g cs hg
 unfold glOf at hg
 split at hg
 ·rename_i e
  cases hg
  unfold Lib.TabIs World.var? at h
  rw [e] at h
  simp only [Option.bind_some] at h
  split at h
  ·rename_i c ty m hc
   cases h
   exact ⟨ty, m, hc⟩
  ·cases h
 ·cases hg
def topE (P : Program) (W : World) : Env := ⟨W, fun g => g < W.heap.size ∧ glOf P g = none, fun _ => .nilFunc, fun _ => 0, no⟩
def topF (P : Program) : Fr P := ⟨fun g => (glOf P g).isSome = true⟩
theorem gl_cells {g : Nat} {cs : Array Value} (h : glOf P g = some cs) : ∀ v ∈ cs.toList, ¬ notU8 v := by
 unfold glOf at h
 split at h
 ·cases h
  intro v hv hn
  simp only [List.mem_map] at hv
  obtain ⟨z, _, rfl⟩ := hv
  exact hn z rfl
 ·cases h
theorem top_can {W : World} (hgl : ∀ g cs, glOf P g = some cs → ∃ ty m, W.heap[g]? = some (.cells cs ty m)) : CanRead (topE P W) := by
 intro b cur ty m hb hv
 refine ⟨(Array.getElem?_eq_some_iff.1 hb).1, ?_⟩
 cases hg : glOf P b with
 | none => rfl
 | some cs =>
  obtain ⟨ty', m', h⟩ := hgl b cs hg
  rw [show W.heap[b]? = _ from hb] at h
  cases h
  obtain ⟨v, hv1, hv2⟩ := hv
  exact absurd hv2 (gl_cells hg v hv1)
theorem top_ok {W : World} (hgl : ∀ g cs, glOf P g = some cs → ∃ ty m, W.heap[g]? = some (.cells cs ty m)) : HOk (topF P) (topE P W) := by
 refine ⟨(fun i ob hi => by cases hi), (fun i ob g hi => by cases hi), (fun i j oi oj g _ hi => by cases hi), fun g hg => hg.1, fun g hg => ?_, fun g hs hg => ?_, fun g cs hg => ⟨?_, hgl g cs hg⟩⟩
 ·obtain ⟨cs, hc⟩ := Option.isSome_iff_exists.1 hg
  obtain ⟨ty, m, h⟩ := hgl g cs hc
  exact (Array.getElem?_eq_some_iff.1 h).1
 ·have h1 := hs.2
  have h2 : (glOf P g).isSome = true := hg
  rw [h1] at h2; cases h2
 ·show (glOf P g).isSome = true
  rw [hg]; rfl
def Sh.args : List Sh → List (DataW H) → List T
 | s :: l, d :: ds => s.toT d :: Sh.args l ds
 | _, _ => []
def Sh.fitsA (P : Program) : List Sh → List TypeId → Bool
 | [], [] => true
 | s :: l, t :: ts => s.fits P t && Sh.fitsA P l ts
 | _, _ => false
theorem val_rep {E : Env} {s : Sh} {t : TypeId} {d : DataW H} {v : Value} {W : World} {base : Nat} (hf : s.fits P t = true) (R : Rd E s d v.cells.toList) (hok : Value.okWide P W .any base t v) : repV E (s.toT d) v := by
 cases s with
 | st l =>
  simp only [Sh.fits] at hf
  split at hf
  ·rename_i fs he
   obtain ⟨cs, rfl, _⟩ := okWide_struct he hok
   refine .inl ⟨by rw [R.kd]; exact Nat.succ_ne_zero _, cs, rfl, R.rep⟩
  ·cases hf
 | int =>
  simp only [Sh.fits] at hf
  split at hf
  ·rename_i he
   obtain ⟨n, rfl⟩ := okWide_int he hok
   exact .inr ⟨R.kd, R.rep⟩
  ·cases hf
 | str =>
  simp only [Sh.fits] at hf
  split at hf
  ·rename_i he
   obtain ⟨n, rfl⟩ := okWide_string he hok
   exact .inr ⟨R.kd, R.rep⟩
  ·cases hf
 | bool =>
  simp only [Sh.fits] at hf
  split at hf
  ·rename_i he
   obtain ⟨n, rfl⟩ := okWide_bool he hok
   exact .inr ⟨R.kd, R.rep⟩
  ·cases hf
 | sl k s =>
  simp only [Sh.fits] at hf
  split at hf
  ·rename_i e he
   obtain ⟨a, len, cap, rfl⟩ := okWide_slice he hok
   exact .inr ⟨R.kd, R.rep⟩
  ·cases hf
theorem args_rep {E : Env} {base : Nat} {spare : Nat → Bool} {held : Bool} {b2 : Nat} (hS : CanRead E) : ∀ {shs : List Sh} {ts : List TypeId} {vs : List Value} {ds : List (DataW H)} {ps : List MemPlace}, Sh.fitsA P shs ts = true → DataW.TrodAll enc P E.w base spare held ts vs ds ps →
  (∀ (j : Nat) (t : TypeId) (v : Value), ts[j]? = some t → vs[j]? = some v → Value.okWide P E.w .any b2 t v) → repVL E (Sh.args shs ds) vs ∧ T.freeL (Sh.args shs ds) = true ∧ Sh.wfL shs ds := by
 intro shs
 induction shs with
 | nil =>
  intro ts vs ds ps hf hA hok
  cases ts with
  | nil =>
   match vs, ds, hA with
   | [], [], _ => exact ⟨rfl, rfl, rfl⟩
  | cons t ts => cases hf
 | cons s shs ih =>
  intro ts vs ds ps hf hA hok
  cases ts with
  | nil => cases hf
  | cons t ts =>
   match vs, ds, hA with
   | v :: vs, d :: ds, ⟨p, q, ⟨n, h1⟩, h2, _⟩ =>
    simp only [Sh.fitsA, Bool.and_eq_true] at hf
    have R := Sh.read hS s t hf.1 n _ d p h1
    obtain ⟨i1, i2, i3⟩ := ih hf.2 h2 fun j t' v' a b => hok (j + 1) t' v' (by simpa using a) (by simpa using b)
    refine ⟨?_, ?_, ⟨d, ds, rfl, R.wf, i3⟩⟩
    ·simp only [Sh.args, repVL_cons]
     exact ⟨v, vs, rfl, val_rep hf.1 R (hok 0 t v rfl rfl), i1⟩
    ·simp only [Sh.args, T.freeL, Bool.and_eq_true]
     exact ⟨R.free, i2⟩
theorem top_calls {W : World} (hgl : ∀ g cs, glOf P g = some cs → ∃ ty m, W.heap[g]? = some (.cells cs ty m)) {f : FuncId} {shs : List Sh} {ts : List TypeId} {args : Array Value} {ds : List (DataW H)} {ps : List MemPlace} {b2 : Nat} {u : Value}
  (hf : Sh.fitsA P shs ts = true) (hA : DataW.TrodAll enc P W 0 (fun _ => true) true ts args.toList ds ps) (hok : ∀ (j : Nat) (t : TypeId) (v : Value), ts[j]? = some t → args[j]? = some v → Value.okWide P W .any b2 t v)
  (S : Sh.wfL shs ds → APure P f (Sh.args shs ds) (.lit u)) : Calls P f args W fun e W' => e = .returned u ∧ Below W.heap.size W W' := by
 obtain ⟨hr, hfr, hwf⟩ := args_rep (E := topE P W) (top_can hgl) hf hA (fun j t v a b => hok j t v a (by simpa using b))
 obtain ⟨_, _, hcall⟩ := (S hwf).call 0
 have := hcall (topF P) (fun _ => False) (topE P W) args.toList (top_ok hgl) rfl hr (freeL_ids hfr) (no_ids _) (fun h => h)
 refine this.mono ?_
 rintro e w' ⟨v, t, E2, rfl, rfl, ⟨rfl, _⟩, hv, _, hext, _⟩
 refine ⟨by rw [repV_lit.1 hv], hext.os, hext.tape, hext.output, hext.size, fun g hg => hext.w g ?_⟩
 cases hq : glOf P g with
 | none => exact .inl ⟨hg, hq⟩
 | some cs => right; show (glOf P g).isSome = true; rw [hq]; rfl
theorem trodAll_stays (hl : laidOutB P = true) {W W' : World} (hb : Below W.heap.size W W') {sp : Nat → Bool} : ∀ {ts : List TypeId} {vs : List Value} {ds : List (DataW H)} {ps : List MemPlace}, (∀ t ∈ ts, P.readableRec t = true ∧ t < P.types.size) →
  DataW.TrodAll enc P W 0 (fun _ => true) true ts vs ds ps → (∀ x ∈ ps, x.block < W.heap.size) → (∀ x ∈ ps, sp x.block = true) → DataW.TrodAll enc P W' 0 sp true ts vs ds ps := by
 intro ts
 induction ts with
 | nil =>
  intro vs ds ps _ h _ _
  match vs, ds, h with
  | [], [], h => exact h
 | cons t ts ih =>
  intro vs ds ps hr h hlt hsp
  match vs, ds, h with
  | v :: vs, d :: ds, ⟨p, q, h1, h2, e⟩ =>
   subst e
   refine ⟨p, q, ?_, ih (fun t ht => hr t (by simp [ht])) h2 (fun x hx => hlt x (by simp [hx])) (fun x hx => hsp x (by simp [hx])), rfl⟩
   obtain ⟨r1, r2⟩ := hr t (by simp)
   exact WideElems.Trod_stays hl r1 r2 h1 (fun x hx => hb.same (hlt x (by simp [hx]))) (fun x hx => hsp x (by simp [hx]))
theorem top_post {W : World} (hgl : ∀ g cs, glOf P g = some cs → ∃ ty m, W.heap[g]? = some (.cells cs ty m)) {f : FuncId} {fn : Func} {s : ChangeSpec} {shs : List Sh} {args : Array Value} {ds gs : List (DataW H)} {before : List MemPlace} {b2 : Nat} {tb : TypeId}
  (hl : laidOutB P = true) (hrd : ∀ t ∈ fn.params.toList, P.readableRec t = true ∧ t < P.types.size) (hvars : s.vars = []) (hres : fn.resultTypes = #[tb]) (htb : P.underlying tb = some .bool)
  (hspec : s.fn H ds = { results := [.lit (.bool true)], args := ds })
  (hf : Sh.fitsA P shs fn.params.toList = true) (hval : ∀ (j : Nat) (t : TypeId) (v : Value), fn.params[j]? = some t → args[j]? = some v → Value.okWide P W .any b2 t v)
  (hW : DataW.Whole enc P fn.params.toList s.vars false W args.toList ds gs before) (S : Sh.wfL shs ds → APure P f (Sh.args shs ds) (.bool true)) :
  Calls P f args W fun e W' => ∃ v, e = .returned v ∧ s.post enc P fn false true false false W args v W' := by
 have hW' := hW
 obtain ⟨p, q, hA, hV, hpq, hfz, hnd⟩ := hW
 have hV0 : gs = [] ∧ q = [] := by
  rw [hvars] at hV
  cases gs with
  | nil => exact ⟨rfl, hV⟩
  | cons _ _ => exact hV.elim
 obtain ⟨rfl, rfl⟩ := hV0
 subst hpq
 refine (top_calls hgl hf hA (fun j t v a b => hval j t v (by simpa using a) b) S).mono ?_
 rintro e W' ⟨rfl, hb⟩
 have hlt : ∀ x ∈ p, x.block < W.heap.size := fun x hx => by simpa using hW'.lt x (by simp [hx])
 refine ⟨_, rfl, ?_⟩
 have hold : ∀ x ∈ p, (fun b => decide (b < W.heap.size)) x.block = true := fun x hx => by simpa using hlt x hx
 refine ⟨ds, [], p ++ [], [], p, [], hW', ?_, ?_, ?_, World.keptBut_mono (fun x hx => ⟨by simpa using hx, ?_⟩) (hb.frame (· ∈ p)), fun h => by cases h⟩
 ·rw [List.append_nil, hspec, hres]
  exact trodAll_mk1 (shut_bool htb true)
 ·rw [List.append_nil, hspec]
  exact trodAll_stays hl hb hrd hA hlt hold
 ·rw [List.append_nil, hspec, hvars]; rfl
 ·right; simpa using hx
end
end Go.Ab
namespace Go.Ab
noncomputable def Tr.getR (t : Tr) : Nat → T :=
 Tr.rec (motive := fun _ => Nat → T) (fun _ => T.un) (fun v _ _ gl gr n => bif Nat.beq n 0 then v else bif Nat.beq (Nat.mod n 2) 1 then gl (Nat.div n 2) else gr (Nat.div (Nat.sub n 1) 2)) t
noncomputable def Tr.setR (t : Tr) : Nat → T → Tr :=
 Tr.rec (motive := fun _ => Nat → T → Tr) (fun _ _ => .lf) (fun v l r gl gr n u => bif Nat.beq n 0 then .nd u l r else bif Nat.beq (Nat.mod n 2) 1 then .nd v (gl (Nat.div n 2) u) r else .nd v l (gr (Nat.div (Nat.sub n 1) 2) u)) t
theorem Tr.getR_eq : ∀ (t : Tr) (n : Nat), t.getR n = t.get n := by
 intro t
 induction t with
 | lf => intro n; rfl
 | nd v l r hl hr =>
  intro n
  show (bif Nat.beq n 0 then v else bif Nat.beq (Nat.mod n 2) 1 then l.getR (Nat.div n 2) else r.getR (Nat.div (Nat.sub n 1) 2)) = _
  rw [hl, hr]; rfl
theorem Tr.setR_eq : ∀ (t : Tr) (n : Nat) (u : T), t.setR n u = t.set n u := by
 intro t
 induction t with
 | lf => intro n u; rfl
 | nd v l r hl hr =>
  intro n u
  show (bif Nat.beq n 0 then Tr.nd u l r else bif Nat.beq (Nat.mod n 2) 1 then .nd v (l.setR (Nat.div n 2) u) r else .nd v l (r.setR (Nat.div (Nat.sub n 1) 2) u)) = _
  rw [hl, hr]; rfl
noncomputable def XS.evR (s : XS) (x : X) : T := X.rec (motive := fun _ => T) (fun n => s.fr.getR n) (fun v => v) x
theorem XS.evR_eq (s : XS) : s.evR = s.ev := by
 funext x
 cases x with
 | t n => exact Tr.getR_eq _ _
 | c v => rfl
end Go.Ab
namespace Go.Ab
def qPick (ev : X → T) (c a b : X) : Option T :=
 match ev c with
 | .lit (.bool true) => some (ev a)
 | .lit (.bool false) => some (ev b)
 | _ => none
def bbX (ne : Bool) (x y : T) : Option T :=
 match x, y with
 | .lit (.bool a), .lit (.bool b) => some (.lit (.bool (bif ne then !(a == b) else a == b)))
 | _, _ => none
def notX : T → Option T
 | .lit (.bool b) => some (.lit (.bool !b))
 | _ => none
def faX (hp : Hp) (off k : Nat) : T → Option T
 | .ptr i j o => ofB (hp i).isSome (.ptr i j (Nat.add o off))
 | .ref kt t => ofB (!(Nat.beq kt 0) && partOk (szK kt) off k) (.ref k (t.part off k))
 | _ => none
def fvX (off k : Nat) (t : T) : Option T := ofB (!(Nat.beq t.kd 0) && partOk (szK t.kd) off k) (t.part off k)
def iaX (hp : Hp) (k : Nat) (x i : T) : Option T :=
 match x, i with
 | .sl k' _ l, .lit (.int _ n) => ofB (Nat.beq k' k && inRB n l.length) (.ref k (l.getD n.toNat .any))
 | .own o, .lit (.int _ n) => match hp o with | some ob => ofB (Nat.beq ob.k k && inRB n ob.l.length) (.ptr o n.toNat 0) | none => none
 | .ovw o lo hi, .lit (.int _ n) => match hp o with | some ob => ofB (Nat.beq ob.k k && inRB n (Nat.sub hi lo)) (.ptr o (Nat.add lo n.toNat) 0) | none => none
 | _, _ => none
def ldX (hp : Hp) (k : Nat) (x : T) : Option T :=
 match x with
 | .ref k' t => ofB (Nat.beq k' k && Nat.blt 0 (szK k)) t
 | .ptr i j off =>
  match hp i with
  | some ob =>
   bif Nat.blt j ob.l.length then
    bif Nat.beq off 0 && Nat.beq ob.k k then some (ob.l.getD j .any)
    else ofB (!(Nat.beq ob.k 0) && partOk (szK ob.k) off k) ((ob.l.getD j .any).part off k)
   else none
  | none => none
 | _ => none
def ncX (hp : Hp) : T → Option T
 | .ptr i a b => ofB (hp i).isSome (.ptr i a b)
 | .ref a b => some (.ref a b)
 | .fn a b => some (.fn a b)
 | _ => none
def lenX (hp : Hp) (str : Bool) (x : T) : Option T :=
 match x with
 | .sl _ _ l => ofB (!str) (.lit (.int .i64 (.ofNat l.length)))
 | .own o => match hp o with | some ob => ofB (!str && !(Nat.beq ob.k 1000000007)) (.lit (.int .i64 (.ofNat ob.l.length))) | none => none
 | .ovw i lo hi => ofB (!str && (hp i).isSome) (.lit (.int .i64 (.ofNat (Nat.sub hi lo))))
 | .lit (.string b) => ofB str (.lit (.int .i64 (.ofNat b.size)))
 | _ => none
def exX (x : T) (i : Nat) : Option T := match x with | .tup l => ofB (Nat.blt i l.length) (l.getD i .any) | _ => none
def fin1 (s : XS) (d : Option Nat) : Option T → Option XS
 | some t => frcT t fun t => s.put d t
 | none => none
noncomputable def XS.putR (s : XS) (d : Option Nat) (t : T) : Option XS :=
 match d with
 | some i => bif Nat.blt i s.n then some ⟨s.fr.setR i t, s.n, s.hp, s.nx, s.pin⟩ else none
 | none => some s
noncomputable def fin1R (s : XS) (d : Option Nat) : Option T → Option XS
 | some t => frcT t fun t => s.putR d t
 | none => none
noncomputable def callR (s : XS) (d : Option Nat) : Option (T × XH) → Option XS
 | some (t, h) => frcT t fun t => match d with
  | some i => bif Nat.blt i s.n then some ⟨s.fr.setR i t, s.n, h, s.nx, s.pin⟩ else none
  | none => some ⟨s.fr, s.n, h, s.nx, s.pin⟩
 | none => none
noncomputable def yOp (cf : CF) (dr : Bool) (n : Nat) (d : Option Nat) (op : AOp) (s : XS) : Option XS :=
 match op with
 | .mv x => fin1R s d (some (s.evR x))
 | .pick c a b => fin1R s d (qPick s.evR c a b)
 | .bin op x y => fin1R s d (binX op (s.evR x) (s.evR y))
 | .bb ne x y => fin1R s d (bbX ne (s.evR x) (s.evR y))
 | .not x => fin1R s d (notX (s.evR x))
 | .fa off k x => fin1R s d (faX (lk s.hp) off k (s.evR x))
 | .fv off k x => fin1R s d (fvX off k (s.evR x))
 | .ia k x i => fin1R s d (iaX (lk s.hp) k (s.evR x) (s.evR i))
 | .ld k x => fin1R s d (ldX (lk s.hp) k (s.evR x))
 | .nc x => fin1R s d (ncX (lk s.hp) (s.evR x))
 | .len str x => fin1R s d (lenX (lk s.hp) str (s.evR x))
 | .ex x i => fin1R s d (exX (s.evR x) i)
 | .call f xs => callR s d (cf dr n f (xs.map s.evR) s.hp)
 | op => xOp cf dr n d op s
theorem frcT_id {α : Type} (t : T) (k : T → α) : frcT t k = k t := by
 have hN : ∀ (n : Nat) (k : Nat → α), frcN n k = k n := by intro n k; cases n <;> rfl
 unfold frcT
 split <;> simp only [hN]
theorem putR_eq (s : XS) (d : Option Nat) (t : T) : s.putR d t = s.put d t := by
 cases d with
 | none => rfl
 | some i => simp only [XS.putR, XS.put, Tr.setR_eq]
theorem fin1R_eq (s : XS) (d : Option Nat) (t : Option T) : fin1R s d t = fin1 s d t := by
 cases t with
 | none => rfl
 | some t => simp only [fin1R, fin1, frcT_id, putR_eq]
theorem callR_eq (cf : CF) (dr : Bool) (n : Nat) (d : Option Nat) (f : FuncId) (ts : List T) (s : XS) : callR s d (cf dr n f ts s.hp) = callX cf dr n d f ts s := by
 unfold callX
 cases cf dr n f ts s.hp with
 | none => rfl
 | some p =>
  obtain ⟨t, h⟩ := p
  simp only [callR, frcT_id, XS.putH]
  cases d with
  | none => rfl
  | some i => simp only [Tr.setR_eq]
theorem yOp_eq (cf : CF) (dr : Bool) (n : Nat) (d : Option Nat) (op : AOp) (s : XS) : yOp cf dr n d op s = xOp cf dr n d op s := by
 cases op <;> first | rfl | (simp only [yOp, fin1R_eq, XS.evR_eq, callR_eq]; rfl)
def noneList {α : Type} : List α → Bool
 | [] => true
 | _ => false
noncomputable def yGo (cf : CF) (dr : Bool) (_m : Nat) (o : AOper) (i : Nat) (s : XS) (k : Nat → XS → Option XS) : Option XS :=
 bif bif o.fl then flagX o s else (match o.ne with | [] => true | l => neX s o.op.xs l) then
  match yOp cf dr (Nat.add s.nx i) o.d o.op s with
  | some s' => k (Nat.succ i) s'
  | none => none
 else none
noncomputable def ySkip (o : AOper) (i : Nat) (s : XS) (k : Nat → XS → Option XS) : Option XS :=
 match s.putR o.d T.un with
 | some s' => k (Nat.succ i) s'
 | none => none
noncomputable def yGrd (cf : CF) (dr : Bool) (m : Nat) (o : AOper) (d : Nat) (want : Bool) (i : Nat) (s : XS) (k : Nat → XS → Option XS) : T → Option XS
 | .lit (.bool b) => bif Nat.blt d s.n then (bif b == want then yGo cf dr m o i s k else ySkip o i s k) else none
 | .lit (.tuple _) => bif Nat.blt d s.n then ySkip o i s k else none
 | _ => none
noncomputable def yOper (cf : CF) (dr : Bool) (m : Nat) (o : AOper) (k : Nat → XS → Option XS) (i : Nat) (s : XS) : Option XS :=
 match o.g with
 | none => yGo cf dr m o i s k
 | some (d, want) => yGrd cf dr m o d want i s k (s.fr.getR d)
noncomputable def yOps (cf : CF) (dr : Bool) (m : Nat) (l : List AOper) : Nat → XS → Option XS :=
 List.rec (motive := fun _ => Nat → XS → Option XS) (fun _ s => frcN (Nat.add s.nx m) fun k => some ⟨s.fr, s.n, s.hp, k, s.pin⟩) (fun o _ k => yOper cf dr m o k) l
theorem yGo_eq (cf : CF) (dr : Bool) (m : Nat) (o : AOper) (i : Nat) (s : XS) (k : Nat → XS → Option XS) :
  yGo cf dr m o i s k = (bif flagX o s then match xOp cf dr (Nat.add s.nx i) o.d o.op s with
    | some s' => k (Nat.succ i) s'
    | none => none
   else none) := by
 have e : (bif o.fl then flagX o s else (match o.ne with | [] => true | l => neX s o.op.xs l)) = flagX o s := by
  cases h : o.fl with
  | true => rfl
  | false =>
   simp only [flagX, h, cond_false, Bool.true_and]
   cases o.ne <;> rfl
 unfold yGo
 rw [e, yOp_eq]
theorem yOps_eq (cf : CF) (dr : Bool) (m : Nat) : ∀ (l : List AOper) (i : Nat) (s : XS), yOps cf dr m l i s = xOps cf dr m l i s := by
 intro l
 induction l with
 | nil => intro i s; rfl
 | cons o r ih =>
  intro i s
  have hk : (fun i s => yOps cf dr m r i s) = xOps cf dr m r := funext fun i => funext fun s => ih i s
  show yOper cf dr m o (fun i s => yOps cf dr m r i s) i s = _
  rw [hk]
  have hs : ∀ i s, ySkip o i s (xOps cf dr m r) = (match s.put o.d T.un with | some s' => xOps cf dr m r (Nat.succ i) s' | none => none) := by
   intro i s; unfold ySkip; rw [putR_eq]
  unfold yOper xOps
  cases o.g with
  | none => exact yGo_eq ..
  | some p =>
   obtain ⟨d, want⟩ := p
   simp only []
   rw [Tr.getR_eq]
   generalize s.fr.get d = t
   cases t with
   | lit v =>
    cases v <;> first | rfl | (simp only [yGrd, yGo_eq, hs]; done) | (simp only [yGrd, yGo_eq, hs]; rfl)
   | _ => rfl
def ySeq (k : XS → Out) : Out → Out
 | .go s => k s
 | o => o
def yCond (a b : XS → Out) (s : XS) : T → Out
 | .lit (.bool true) => a s
 | .lit (.bool false) => b s
 | _ => .bad
def yBlk (id : Nat) : Out → Out
 | .ex j s' => bif Nat.beq j id then .go s' else .ex j s'
 | o => o
def yReg : Option XS → Out
 | some s => .go s
 | none => .bad
noncomputable def yIter (m : Bool) (body : XS → Out) (n : Nat) : XS → Out :=
 Nat.rec (motive := fun _ => XS → Out) (fun _ => .bad) (fun _ k s => ySeq k (body (s.melt m))) n
noncomputable def yr (cf : CF) (big : Nat) (c : ACode) : XS → Out :=
 ACode.rec (motive := fun _ => XS → Out) (fun s => .go s) (fun dr ops s => yReg (yOps cf dr ops.length ops 0 s)) (fun _ _ fa fb s => ySeq fb (fa s))
  (fun c _ _ fa fb s => yCond fa fb s (s.evR c)) (fun id _ fb s => yBlk id (fb s)) (fun id s => .ex id s) (fun b fb s => yIter (hasMso b) fb big s) (fun s => .rt s) c
theorem yIter_eq (m : Bool) (body : XS → Out) : ∀ (n : Nat) (s : XS), yIter m body n s = iter m body n s := by
 intro n
 induction n with
 | zero => intro s; rfl
 | succ n ih =>
  intro s
  have hk : yIter m body n = iter m body n := funext fun s => ih s
  show ySeq (yIter m body n) (body (s.melt m)) = _
  rw [hk]
  unfold ySeq
  simp only [iter]
  split <;> rename_i h <;> simp [h]
theorem yr_eq (cf : CF) (big : Nat) : ∀ (c : ACode) (s : XS), yr cf big c s = xr cf big c s := by
 intro c
 induction c with
 | skip => intro s; rfl
 | reg dr ops =>
  intro s
  show yReg (yOps cf dr ops.length ops 0 s) = _
  rw [yOps_eq]
  simp only [xr]
  cases xOps cf dr ops.length ops 0 s <;> rfl
 | seq a b ha hb =>
  intro s
  show ySeq (yr cf big b) (yr cf big a s) = _
  rw [ha, show yr cf big b = xr cf big b from funext hb]
  simp only [xr]
  unfold ySeq
  split <;> rename_i h <;> simp [h]
 | cond x a b ha hb =>
  intro s
  show yCond (yr cf big a) (yr cf big b) s (s.evR x) = _
  rw [XS.evR_eq, show yr cf big b = xr cf big b from funext hb, show yr cf big a = xr cf big a from funext ha]
  simp only [xr]
  unfold yCond
  split <;> rename_i h <;> simp [h]
 | blk id b hb =>
  intro s
  show yBlk id (yr cf big b s) = _
  rw [hb]
  simp only [xr]
  unfold yBlk
  split <;> rename_i h <;> simp [h]
 | exit id => intro s; rfl
 | loop b hb =>
  intro s
  show yIter (hasMso b) (yr cf big b) big s = _
  rw [yIter_eq, show yr cf big b = xr cf big b from funext hb]
  simp only [xr]
 | ret => intro s; rfl
noncomputable def yP (K : Know) (cf : CF) (dr : Bool) (n : Nat) (f : FuncId) (ts : List T) : Option (T × Option Ob) :=
 match K.orc n f ts with
 | some r => bif dr && r.2.isSome then none else some r
 | none =>
  match K.tab f with
  | none => none
  | some b =>
   bif Nat.ble ts.length b.nt then
    match yr cf K.big b.code (startX b ts [] 0) with
    | .go s => finP n dr b.rs s
    | .rt s => finP n dr b.rs s
    | _ => none
   else none
noncomputable def yI (K : Know) (cf : CF) (n : Nat) (f : FuncId) (ts : List T) (h : XH) : Option (T × XH) :=
 match K.orcI n f ts h with
 | some r => some r
 | none =>
  match K.tab f with
  | none => none
  | some b =>
   bif T.ltL n ts && hLt n h && Nat.ble ts.length b.nt then
    match yr cf K.big b.code (startX b ts h n) with
    | .go s => finI n h b.rs s
    | .rt s => finI n h b.rs s
    | _ => none
   else none
noncomputable def yf (K : Know) : Nat → CF
 | 0 => fun _ _ _ _ _ => none
 | d + 1 => fun dr n f ts h =>
  bif T.freeL ts then
   match yP K (yf K d) dr n f ts with
   | some (t, o) => some (t, addO n h o)
   | none => none
  else bif K.wr f then (bif dr then none else yI K (yf K d) n f ts h)
  else bif T.freeL (T.lendL h ts) then
   match yP K (yf K d) dr n f (T.lendL h ts) with
   | some (t, o) => bif t.hard && hardO o then some (t, addO n h o) else (bif dr then none else yI K (yf K d) n f ts h)
   | none => bif dr then none else yI K (yf K d) n f ts h
  else bif dr then none else yI K (yf K d) n f ts h
theorem yP_eq (K : Know) (cf : CF) (dr : Bool) (n : Nat) (f : FuncId) (ts : List T) : yP K cf dr n f ts = runP K cf dr n f ts := by
 unfold yP runP; simp only [yr_eq]; rfl
theorem yI_eq (K : Know) (cf : CF) (n : Nat) (f : FuncId) (ts : List T) (h : XH) : yI K cf n f ts h = runI K cf n f ts h := by
 unfold yI runI; simp only [yr_eq]; rfl
theorem yf_eq (K : Know) : ∀ d, yf K d = xf K d := by
 intro d
 induction d with
 | zero => rfl
 | succ d ih =>
  funext dr n f ts h
  simp only [yf, xf, ih, yP_eq, yI_eq]; rfl
end Go.Ab
