/-
 What the evaluator knows without running: contracts of small functions. No condition.
-/
import Derived.KernelRfl
import Derived.Test.YtgokbcjkbdabnaaGreatDoorNb
import Derived.Test.YtgokbcjkbdabnaaGreatDoorLg
namespace Go.Ab
section
variable {P : Program}
theorem idsL_no {l : List T} (h : T.freeL l = true) (M : Nat → Prop) : T.idsL M l := T.idsL_weaken (fun _ h => h.elim) _ (freeL_ids h)
theorem AFn.at {f : FuncId} {ts ts' : List T} {t : Nat → T} {o : Option Ob} (H : AFn P f ts t o) (hs : T.subL (fun _ => False) no ts ts') (hf : T.freeL ts' = true) : AFn P f ts' t o :=
 ⟨hf, H.ids, H.ob, H.nm, fun n => (H.call n).sub hs (fun M _ => idsL_no H.free M)⟩
def intsOf : List T → Option (List Int)
 | [] => some []
 | .lit (.int .i64 n) :: r => match intsOf r with | some l => some (n :: l) | none => none
 | _ => none
def eOf : T → Option Elem
 | .agg [.lit (.int .i64 v), .sl 0 _ l] => match intsOf l with | some c => bif Nat.blt c.length 536870912 then some ⟨v, c⟩ else none | none => none
 | _ => none
def esOf : List T → Option (List Elem)
 | [] => some []
 | t :: r => match eOf t, esOf r with | some e, some l => some (e :: l) | _, _ => none
theorem intsOf_ok : ∀ {l : List T} {c : List Int}, intsOf l = some c → l = c.map T.int := by
 intro l
 induction l with
 | nil => intro c h; cases h; rfl
 | cons t r ih =>
  intro c h
  unfold intsOf at h
  split at h
  ·rename_i e; cases e
  ·rename_i n r' e
   cases e
   split at h
   ·rename_i l' hl
    cases h
    rw [ih hl]; rfl
   ·cases h
  ·cases h
theorem eOf_ok {t : T} {e : Elem} (h : eOf t = some e) : (∃ f, t = .agg [.int e.value, .sl 0 f (e.counts.map T.int)]) ∧ e.counts.length < 2^29 := by
 unfold eOf at h
 split at h
 ·rename_i v f l
  split at h
  ·rename_i c hc
   cases hb : Nat.blt c.length 536870912 with
   | false => rw [hb] at h; cases h
   | true =>
    rw [hb] at h; cases h
    exact ⟨⟨f, by rw [intsOf_ok hc]⟩, Nat.blt_eq.mp hb⟩
  ·cases h
 ·cases h
theorem eOf_free {t : T} {e : Elem} (h : eOf t = some e) : t.free = true := by
 obtain ⟨⟨f, rfl⟩, _⟩ := eOf_ok h; rfl
theorem eOf_sub {t : T} {e : Elem} (h : eOf t = some e) (Z : Nat → Prop) (hp : Hp) : T.sub Z hp (eElem e) t := by
 obtain ⟨⟨f, rfl⟩, _⟩ := eOf_ok h
 simp only [eElem, Go.Ab.ints, T.sub, T.subL]
 exact ⟨trivial, ⟨.inl trivial, .inl trivial, fun h => by cases h⟩, trivial⟩
theorem esOf_ok : ∀ {l : List T} {es : List Elem}, esOf l = some es → T.freeL l = true ∧ (∀ t ∈ l, t.kd = 3) ∧ (∀ e ∈ es, e.counts.length < 2^29) ∧ es.length = l.length ∧ ∀ Z hp, T.subL Z hp (es.map eElem) l := by
 intro l
 induction l with
 | nil => intro es h; cases h; exact ⟨rfl, (fun t h => by cases h), (fun e h => by cases h), rfl, fun _ _ => trivial⟩
 | cons t r ih =>
  intro es h
  unfold esOf at h
  split at h
  ·rename_i e l h1 h2
   cases h
   obtain ⟨a1, a2, a3, a4, a5⟩ := ih h2
   refine ⟨by simp only [T.freeL, eOf_free h1, a1]; rfl, fun x hx => ?_, fun x hx => ?_, by simp [a4], fun Z hp => ⟨eOf_sub h1 Z hp, a5 Z hp⟩⟩
   ·rcases List.mem_cons.1 hx with rfl | hx
    ·obtain ⟨⟨f, rfl⟩, _⟩ := eOf_ok h1; rfl
    ·exact a2 x hx
   ·rcases List.mem_cons.1 hx with rfl | hx
    ·exact (eOf_ok h1).2
    ·exact a3 x hx
  ·cases h
theorem rowE_sub {l : List T} {es : List Elem} (h : esOf l = some es) (f : Bool) (Z : Nat → Prop) (hp : Hp) : T.sub Z hp (.sl 3 false (es.map eElem)) (.sl 3 f l) := by
 simp only [T.sub]
 refine ⟨.inr ⟨(esOf_ok h).2.2.2.2 Z hp, fun t ht => ?_⟩, .inl trivial, fun h => by cases h⟩
 obtain ⟨e, _, rfl⟩ := List.mem_map.1 ht; rfl
end
end Go.Ab
namespace Go.Proofs.YtgokbcjkbdabnaaGreatDoor
open Go.Ab Go.Proofs
set_option maxRecDepth 100000
def oTotal : List T → Option T
 | [t] => match eOf t with | some e => some (.int (totE e)) | none => none
 | _ => none
def oLeq : List T → Option T
 | [s, t] => match eOf s, eOf t with | some a, some b => some (.bool (leqE a b)) | _, _ => none
 | _ => none
def oCmp : List T → Option T
 | [s, t] => match eOf s, eOf t with | some a, some b => some (.int (cmpE a b)) | _, _ => none
 | _ => none
def oCont : List T → Option T
 | [.sl 3 _ l, t] => match esOf l, eOf t with | some a, some b => bif Nat.blt a.length 1000000 then some (.bool (a.any fun x => leqE x b)) else none | _, _ => none
 | _ => none
def oName : List T → Option T
 | [.lit (.string b)] => some (.bool (nmB b && !(rsvWords.any fun x => b.data.toList == x)))
 | _ => none
def oGrow (n : Nat) : List T → Option (T × Option Ob)
 | [.sl 0 true [], .lit (.int .i64 (.ofNat m))] => bif Nat.blt 0 m && Nat.blt m 1000000 then some (.own n, some ⟨9, 0, []⟩) else none
 | _ => none
def pureO : Option T → Option (T × Option Ob)
 | some t => some (t, none)
 | none => none
def orc5 (n : Nat) (f : FuncId) (ts : List T) : Option (T × Option Ob) :=
 bif Nat.beq f 15 then pureO (oTotal ts) else
 bif Nat.beq f 11 then pureO (oLeq ts) else
 bif Nat.beq f 13 then pureO (oCmp ts) else
 bif Nat.beq f 53 then pureO (oCont ts) else
 bif Nat.beq f 79 then pureO (oName ts) else
 bif Nat.beq f 147 then oGrow n ts else none
def PureOk (f : FuncId) (g : List T → Option T) : Prop := ∀ ts t, g ts = some t → t.free = true ∧ APure Tryz.prog f ts t
theorem oTotal_ok : PureOk 15 oTotal := by
 intro ts t h
 unfold oTotal at h
 split at h
 ·rename_i u
  split at h
  ·rename_i e he
   cases h
   exact ⟨rfl, (S.cover_Total e (by have := (eOf_ok he).2; omega)).at (And.intro (eOf_sub he _ _) trivial) (by simp [T.freeL, eOf_free he])⟩
  ·cases h
 ·cases h
theorem oLeq_ok : PureOk 11 oLeq := by
 intro ts t h
 unfold oLeq at h
 split at h
 ·split at h
  ·rename_i a b ha hb
   cases h
   exact ⟨rfl, (S.cover_Leq a b (by have := (eOf_ok ha).2; omega) (by have := (eOf_ok hb).2; omega)).at (And.intro (eOf_sub ha _ _) (And.intro (eOf_sub hb _ _) trivial)) (by simp [T.freeL, eOf_free ha, eOf_free hb])⟩
  ·cases h
 ·cases h
theorem oCmp_ok : PureOk 13 oCmp := by
 intro ts t h
 unfold oCmp at h
 split at h
 ·split at h
  ·rename_i a b ha hb
   cases h
   exact ⟨rfl, (S.cover_Compare a b (by have := (eOf_ok ha).2; omega) (by have := (eOf_ok hb).2; omega)).at (And.intro (eOf_sub ha _ _) (And.intro (eOf_sub hb _ _) trivial)) (by simp [T.freeL, eOf_free ha, eOf_free hb])⟩
  ·cases h
 ·cases h
theorem oCont_ok : PureOk 53 oCont := by
 intro ts t h
 unfold oCont at h
 split at h
 ·split at h
  ·rename_i f l u a b ha hb
   cases hl : Nat.blt a.length 1000000 with
   | false => rw [hl] at h; cases h
   | true =>
    rw [hl] at h; cases h
    have hl' := Nat.blt_eq.mp hl
    obtain ⟨a1, _, a3, _⟩ := esOf_ok ha
    exact ⟨rfl, (S.cover_Contains a b false (by omega) (fun x hx => by have := a3 x hx; omega) (by have := (eOf_ok hb).2; omega)).at (And.intro (rowE_sub ha _ _ _) (And.intro (eOf_sub hb _ _) trivial)) (by simp [T.freeL, T.free, eOf_free hb])⟩
  ·cases h
 ·cases h
theorem oName_ok : PureOk 79 oName := by
 intro ts t h
 unfold oName at h
 split at h
 ·rename_i b
  cases h
  refine ⟨rfl, ?_⟩
  exact S.ValidNameB b _ (S.protocol_isReserved b.data.toList)
 ·cases h
theorem oGrow_ok {n : Nat} {ts : List T} {t : T} {o : Option Ob} (h : oGrow n ts = some (t, o)) : ∃ tf, tf n = t ∧ AFn Tryz.prog 147 ts tf o ∧ (o = none → t.free = true) := by
 unfold oGrow at h
 split at h
 ·rename_i m
  cases hb : (Nat.blt 0 m && Nat.blt m 1000000) with
  | false => rw [hb] at h; cases h
  | true =>
   rw [hb] at h; cases h
   rw [Bool.and_eq_true] at hb
   refine ⟨fun n => .own n, rfl, S.Grow m (Nat.blt_eq.mp hb.1) (by have := Nat.blt_eq.mp hb.2; omega), fun h => by cases h⟩
 ·cases h
theorem orc5_ok : OrcOk Tryz.prog orc5 := by
 intro n f ts t o h
 have pure : ∀ {k : FuncId} {g : List T → Option T}, PureOk k g → f = k → pureO (g ts) = some (t, o) → ∃ tf : Nat → T, tf n = t ∧ AFn Tryz.prog f ts tf o ∧ (o = none → t.free = true) := by
  intro k g hg e h
  subst e
  unfold pureO at h
  split at h
  ·rename_i u hu
   cases h
   obtain ⟨a, b⟩ := hg ts t hu
   exact ⟨fun _ => t, rfl, b, fun _ => a⟩
  ·cases h
 unfold orc5 at h
 cases h1 : Nat.beq f 15 with
 | true => rw [h1] at h; exact pure oTotal_ok (Nat.eq_of_beq_eq_true h1) h
 | false =>
 rw [h1] at h
 cases h2 : Nat.beq f 11 with
 | true => rw [h2] at h; exact pure oLeq_ok (Nat.eq_of_beq_eq_true h2) h
 | false =>
 rw [h2] at h
 cases h3 : Nat.beq f 13 with
 | true => rw [h3] at h; exact pure oCmp_ok (Nat.eq_of_beq_eq_true h3) h
 | false =>
 rw [h3] at h
 cases h4 : Nat.beq f 53 with
 | true => rw [h4] at h; exact pure oCont_ok (Nat.eq_of_beq_eq_true h4) h
 | false =>
 rw [h4] at h
 cases h5 : Nat.beq f 79 with
 | true => rw [h5] at h; exact pure oName_ok (Nat.eq_of_beq_eq_true h5) h
 | false =>
 rw [h5] at h
 cases h6 : Nat.beq f 147 with
 | true =>
  rw [h6] at h
  have := Nat.eq_of_beq_eq_true h6; subst this
  exact oGrow_ok h
 | false => rw [h6] at h; cases h
def wrs (f : Nat) : Bool := memN f [41, 57, 58, 71, 91, 96, 111, 112, 113, 114, 115, 116, 117, 118, 122, 141, 144, 145, 146, 156, 157, 160]
def K5 : Know := ⟨xtab, orc5, fun _ _ _ _ => none, wrs, 10000⟩
theorem K5_ok : KOk Tryz.prog K5 := ⟨xtab_ok, orc5_ok, fun n f ts h t h' e => by cases e⟩
end Go.Proofs.YtgokbcjkbdabnaaGreatDoor
namespace Go.Ab
def strQ (a b : ByteArray) : Bool := a.data.toList == b.data.toList
mutual
def T.eqv : T → T → Bool
 | .lit (.int .i64 a), .lit (.int .i64 b) => iEq a b
 | .lit (.bool a), .lit (.bool b) => a == b
 | .lit (.string a), .lit (.string b) => strQ a b
 | .agg a, .agg b => T.eqvL a b
 | .sl k f a, .sl k' f' b => Nat.beq k k' && (f == f') && T.eqvL a b
 | _, _ => false
def T.eqvL : List T → List T → Bool
 | [], [] => true
 | a :: l, b :: r => T.eqv a b && T.eqvL l r
 | _, _ => false
end
theorem strQ_ok {a b : ByteArray} (h : strQ a b = true) : a = b := by
 have : a.data.toList = b.data.toList := by simpa [strQ] using h
 exact ByteArray.ext (Array.ext' this)
theorem iEq_ok {a b : Int} (h : iEq a b = true) : a = b := by
 cases a <;> cases b <;> simp [iEq] at h <;> rw [h]
mutual
theorem T.eqv_ok : (a b : T) → T.eqv a b = true → a = b := fun a b h => by
 unfold T.eqv at h
 split at h
 ·rw [iEq_ok h]
 ·rw [show _ = _ from eq_of_beq h]
 ·rw [strQ_ok h]
 ·rename_i l r; rw [T.eqvL_ok l r h]
 ·rename_i k f l k' f' r
  simp only [Bool.and_eq_true] at h
  rw [Nat.eq_of_beq_eq_true h.1.1, eq_of_beq h.1.2, T.eqvL_ok l r h.2]
 ·cases h
theorem T.eqvL_ok : (a b : List T) → T.eqvL a b = true → a = b
 | [], [], _ => rfl
 | a :: l, b :: r, h => by
  simp only [T.eqvL, Bool.and_eq_true] at h
  rw [T.eqv_ok a b h.1, T.eqvL_ok l r h.2]
 | [], _ :: _, h => by simp [T.eqvL] at h
 | _ :: _, [], h => by simp [T.eqvL] at h
end
end Go.Ab
namespace Go.Proofs.YtgokbcjkbdabnaaGreatDoor
open Go.Ab Go.Proofs
set_option maxRecDepth 100000
def mxT : T := .agg [.lit (.string ⟨#[109, 120]⟩), .int 1, .sl 0 true [.lit (.string ⟨#[105]⟩), .lit (.string ⟨#[119]⟩), .lit (.string ⟨#[99]⟩)], .sl 0 true [], .sl 0 true [.lit
 (.string ⟨#[102, 114, 101, 101]⟩), .lit (.string ⟨#[104, 101, 108, 100]⟩)], .int 0, .sl 0 true [], .sl 0 true [.int 0], .sl 0 true [], .sl 19 false [.agg [.lit (.string
 ⟨#[97, 115, 107]⟩), .int 1, .int 0, .int 1, .int 0, .int 0, .sl 0 true [], .sl 0 true [], .sl 0 true [], .sl 0 true [], .int (-1), .int (-1), .sl 0 true [], .int 0, .sl
 0 true [], .sl 0 true [], .sl 0 true [], .int 0], .agg [.lit (.string ⟨#[116, 97, 107, 101]⟩), .int 1, .int 1, .int 2, .int 0, .int 0, .sl 0 true [], .sl 0 true [], .sl
 0 true [], .sl 0 true [], .int 0, .int 1, .sl 0 true [], .int 0, .sl 0 true [], .sl 0 true [], .sl 0 true [], .int 0], .agg [.lit (.string ⟨#[108, 101, 97, 118, 101]⟩),
 .int 1, .int 2, .int 0, .int 0, .int 0, .sl 0 true [], .sl 0 true [], .sl 0 true [], .sl 0 true [], .int 1, .int 0, .sl 0 true [], .int 0, .sl 0 true [], .sl 0 true [],
 .sl 0 true [], .int 0]]]
def exT : T := .agg [.lit (.string ⟨#[101, 120]⟩), .int 1, .sl 0 true [], .sl 3 false [.agg [.sl 0 true [.int 2], .int 2]], .sl 0 true [], .sl 0 true []]
def badL : List T := [.agg [.int 0, .sl 0 false [.int 0, .int 0, .int 2]], .agg [.int 1, .sl 0 false [.int 0, .int 0, .int 2]]]
theorem m54 : yP K5 (yf K5 39) false 0 78 [mxT] = some (.int 0, none) := by kernel_rfl
theorem m37 : yP K5 (yf K5 39) false 0 49 [mxT, exT] = some (.int 0, none) := by kernel_rfl
theorem m38 : yP K5 (yf K5 39) false 0 50 [mxT] = some (.tup [.agg [.bool false, .bool true, .bool false, .bool false, .bool true], .int 0], none) := by kernel_rfl
end Go.Proofs.YtgokbcjkbdabnaaGreatDoor
