/-
  The chapter's first example: what is known of it, and the run. No condition.
-/
import Derived.KernelRfl
import Derived.Test.YtgokbcjkbdabnaaGreatDoorNb
namespace Go.Ab
/-! ### equal values -/
def strQ (a b : ByteArray) : Bool := a.data.toList == b.data.toList
mutual
def T.eqv : T → T → Bool
  | .lit (.int .i64 a), .lit (.int .i64 b) => iEq a b
  | .lit (.bool a), .lit (.bool b) => a == b
  | .lit (.string a), .lit (.string b) => strQ a b
  | .agg a, .agg b => T.eqvL a b
  | .sl k f a, .sl k' f' b => Nat.beq k k' && (f == f') && T.eqvL a b
  | _, _ => false
def T.eqvL : List T → List T → Bool
  | [], [] => true
  | a :: l, b :: r => T.eqv a b && T.eqvL l r
  | _, _ => false
end
theorem strQ_ok {a b : ByteArray} (h : strQ a b = true) : a = b := by
  have : a.data.toList = b.data.toList := by simpa [strQ] using h
  exact ByteArray.ext (Array.ext' this)
theorem iEq_ok {a b : Int} (h : iEq a b = true) : a = b := by
  cases a <;> cases b <;> simp [iEq] at h <;> rw [h]
mutual
theorem T.eqv_ok : (a b : T) → T.eqv a b = true → a = b := fun a b h => by
  unfold T.eqv at h
  split at h
  · rw [iEq_ok h]
  · rw [show _ = _ from eq_of_beq h]
  · rw [strQ_ok h]
  · rename_i l r; rw [T.eqvL_ok l r h]
  · rename_i k f l k' f' r
    simp only [Bool.and_eq_true] at h
    rw [Nat.eq_of_beq_eq_true h.1.1, eq_of_beq h.1.2, T.eqvL_ok l r h.2]
  · cases h
theorem T.eqvL_ok : (a b : List T) → T.eqvL a b = true → a = b
  | [], [], _ => rfl
  | a :: l, b :: r, h => by
    simp only [T.eqvL, Bool.and_eq_true] at h
    rw [T.eqv_ok a b h.1, T.eqvL_ok l r h.2]
  | [], _ :: _, h => by simp [T.eqvL] at h
  | _ :: _, [], h => by simp [T.eqvL] at h
end
end Go.Ab
namespace Go.Proofs.YtgokbcjkbdabnaaGreatDoor
open Go.Ab Go.Proofs
set_option maxRecDepth 100000
def mxT : T := .agg [.lit (.string ⟨#[109, 120]⟩), .int 1, .sl 0 true [.lit (.string ⟨#[105]⟩), .lit (.string ⟨#[119]⟩), .lit (.string ⟨#[99]⟩)], .sl 0 true [], .sl 0 true [.lit
  (.string ⟨#[102, 114, 101, 101]⟩), .lit (.string ⟨#[104, 101, 108, 100]⟩)], .int 0, .sl 0 true [], .sl 0 true [.int 0], .sl 0 true [], .sl 19 false [.agg [.lit (.string
  ⟨#[97, 115, 107]⟩), .int 1, .int 0, .int 1, .int 0, .int 0, .sl 0 true [], .sl 0 true [], .sl 0 true [], .sl 0 true [], .int (-1), .int (-1), .sl 0 true [], .int 0, .sl
  0 true [], .sl 0 true [], .sl 0 true [], .int 0], .agg [.lit (.string ⟨#[116, 97, 107, 101]⟩), .int 1, .int 1, .int 2, .int 0, .int 0, .sl 0 true [], .sl 0 true [], .sl
  0 true [], .sl 0 true [], .int 0, .int 1, .sl 0 true [], .int 0, .sl 0 true [], .sl 0 true [], .sl 0 true [], .int 0], .agg [.lit (.string ⟨#[108, 101, 97, 118, 101]⟩),
  .int 1, .int 2, .int 0, .int 0, .int 0, .sl 0 true [], .sl 0 true [], .sl 0 true [], .sl 0 true [], .int 1, .int 0, .sl 0 true [], .int 0, .sl 0 true [], .sl 0 true [],
  .sl 0 true [], .int 0]]]
def exT : T := .agg [.lit (.string ⟨#[101, 120]⟩), .int 1, .sl 0 true [], .sl 3 false [.agg [.sl 0 true [.int 2], .int 2]], .sl 0 true [], .sl 0 true []]
def badL : List T := [.agg [.int 0, .sl 0 false [.int 0, .int 0, .int 2]], .agg [.int 1, .sl 0 false [.int 0, .int 0, .int 2]]]
theorem m54 : yP K5 (yf K5 39) false 0 78 [mxT] = some (.int 0, none) := by kernel_rfl
theorem m37 : yP K5 (yf K5 39) false 0 49 [mxT, exT] = some (.int 0, none) := by kernel_rfl
theorem m38 : yP K5 (yf K5 39) false 0 50 [mxT] = some (.tup [.agg [.bool false, .bool true, .bool false, .bool false, .bool true], .int 0], none) := by kernel_rfl
end Go.Proofs.YtgokbcjkbdabnaaGreatDoor
