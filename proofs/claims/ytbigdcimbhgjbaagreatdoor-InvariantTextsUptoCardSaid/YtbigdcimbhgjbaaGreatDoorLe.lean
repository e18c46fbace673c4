/-
 A part of the proof. No condition.
-/
import Derived.Test.YtbigdcimbhgjbaaGreatDoorLd
namespace Go.Ab
theorem aef{α:Type}{a b:Nat}{x y:α}:(bif Nat.beq a b then x else y)=if a=b then x else y:=by
 by_cases h:a=b
 ·subst h; rw[if_pos rfl,Nat.beq_refl]; rfl
 ·rw[if_neg h]
  cases hb:Nat.beq a b with
  |false=>rfl
  |true=>exact absurd (Nat.eq_of_beq_eq_true hb) h
theorem gY{l:List T}:T.bZ l=true↔ ∀ t∈l,t.free=true:=by
 induction l with
 |nil=>simp[T.bZ]
 |cons t ts ih=>simp[T.bZ,ih]
theorem FK.trans{s s' s'':AS}(h:FK s s')(h':FK s' s''):FK s s'':=by
 induction h' with
 |refl=>exact h
 |slot a _ ih=>exact .slot a ih
 |cell a _ ih=>exact .cell a ih
 |box a _ ih=>exact .box a ih
 |take a _ ih=>exact .take a ih
 |fz a _ ih=>exact .fz a ih
theorem QN{p:Nat->Prop}: ∀ n,p n-> ∃ m,p m/\ ∀ k,p k->m<=k:=by
 intro n
 induction n using Nat.strongRecOn with
 |ind n ih =>
  intro hn
  by_cases h: ∃ k,k<n/\p k
  ·obtain⟨k,h1,h2⟩:=h; exact ih k h1 h2
  ·exact⟨n,hn,fun k hk=>Nat.le_of_not_lt fun hlt=>h ⟨k,hlt,hk⟩⟩
end Go.Ab
