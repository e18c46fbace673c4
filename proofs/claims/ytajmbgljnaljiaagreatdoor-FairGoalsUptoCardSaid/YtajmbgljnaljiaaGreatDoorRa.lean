/-
 A part of the proof. No condition.
-/
import Derived.Test.YtajmbgljnaljiaaGreatDoorVa
namespace Go.Proofs.YtajmbgljnaljiaaGreatDoor
open Go.Ab Go.Proofs
set_option maxRecDepth 100000
theorem DN(s:Str):(bs s).toList=s:=by rw[Lib.toList_data]; rfl
theorem C9{α:Type}{l:List α}{p:α->Bool}{d:α}{i:Nat}(hi:i<l.length)(h:(l.take i).all p=true):(l.take (i+1)).all p=p (l.getD i d):=by
 rw[List.take_add_one,List.all_append,h,Bool.true_and]
 simp[hi]
theorem zO{α:Type}{l:List α}{p:α->Bool}{d:α}{i:Nat}(hi:i<l.length)(h:p (l.getD i d)=false):l.all p=false:=by
 rw[Bool.eq_false_iff]; intro q
 rw[List.all_eq_true] at q
 have:=q l[i] (List.getElem_mem hi)
 rw[show l.getD i d=l[i] by simp[hi]] at h
 rw[h] at this; cases this
def u8(s:Str)(i:Nat):Nat:=(s.getD i 0).toNat
end Go.Proofs.YtajmbgljnaljiaaGreatDoor
namespace Go.Proofs.YtajmbgljnaljiaaGreatDoor
open Go.Ab Go.Proofs
set_option maxRecDepth 100000
theorem Ua{a b:Int}(h:(a !=b)=false):a=b:=by simpa using h
end Go.Proofs.YtajmbgljnaljiaaGreatDoor
