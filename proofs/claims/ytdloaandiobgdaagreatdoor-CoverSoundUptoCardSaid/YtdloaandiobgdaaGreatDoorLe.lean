/-
 A part of the proof. No condition.
-/
import Derived.Test.YtdloaandiobgdaaGreatDoorLd
namespace Go.Ab
theorem alJ{α:Type}{a b:Nat}{x y:α}:(bif Nat.beq a b then x else y)=if a=b then x else y:=by
 by_cases h:a=b
 ·subst h; rw[bc rfl,gS]; rfl
 ·rw[bB h];cases hb:Nat.beq a b with
  |false=>rfl
  |true=>exact absurd (cw hb) h
theorem iO{l:List T}:T.bn l=true↔ ∀ t∈l,t.free=true:=by
 induction l with
 |nil=>simp[T.bn]
 |cons t ts ih=>simp[T.bn,ih]
theorem IJ.trans{s s' s'':AS}(h:IJ s s')(h':IJ s' s''):IJ s s'':=by
 induction h' with
 |refl=>exact h
 |slot a _ ih=>exact .slot a ih
 |cell a _ ih=>exact .cell a ih
 |box a _ ih=>exact .box a ih
 |take a _ ih=>exact .take a ih
 |fz a _ ih=>exact .fz a ih
theorem YN{p:Nat->Prop}: ∀ n,p n-> ∃ m,p m/\ ∀ k,p k->m<=k:=by
 intro n;induction n using Nat.strongRecOn with
 |ind n ih =>
  intro hn;by_cases h: ∃ k,k<n/\p k
  ·obtain⟨k,h1,h2⟩:=h; exact ih k h1 h2
  ·exact⟨n,hn,fun k hk=>Nat.le_of_not_lt fun hlt=>h ⟨k,hlt,hk⟩⟩
end Go.Ab
