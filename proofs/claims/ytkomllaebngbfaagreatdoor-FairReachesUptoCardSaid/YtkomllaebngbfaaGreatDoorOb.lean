/-
 What can be come to in the example, and its space. No condition.
-/
import Derived.Test.YtkomllaebngbfaaGreatDoorOa
namespace Go.Proofs.YtkomllaebngbfaaGreatDoor
open Go.Ab Go.Proofs
set_option maxRecDepth 100000
def fl6:List T:=[Dy 1 0,Dy 1 1,Dy 1 2,Dy 2 0,Dy 2 1,Dy 2 2]
def aak:Mm:=⟨87,[flT,fnT],.any,some (50,3,fl6)⟩
theorem r4:Mm.ok Tryz.prog aak:=Mm.of (d:=38) afZ (by kernel_rfl) fun n=>by kernel_rfl
def L2:List Mm:=aak::L1
def K7:Know:=⟨Xr,MJ L2 Ue,fun _ _ _ _=>none,wrs,10000⟩
theorem ac4: ∀ e∈L2,Mm.ok Tryz.prog e:=fun e he=>(List.mem_cons.1 he).elim (fun h=>h▸r4) (ac3 e)
theorem af0:KOk Tryz.prog K7:=⟨EP,ER EN ac4,fun n f ts h t h' e=>by cases e⟩
def sl(l:List T):T:=.sl 0 false l
def spT:T:=.agg ((match flT with| .agg l=>l|_=>[])++[.sl 3 false fl6,sl (List.replicate 6 (sl [.bool true])),sl [sl [.nil],sl [.nil],sl [.nil],sl [sl [.int 1,.int 4]],sl [sl [.int 2,.int 5]],sl [sl [.int 2,.int 5]]]])
def af2:Mm:=⟨67,[flT,fnT],spT,none⟩
theorem r5:Mm.ok Tryz.prog af2:=Mm.of (d:=38) af0 (by kernel_rfl) fun n=>by kernel_rfl
def L3:List Mm:=af2::L2
def K8:Know:=⟨Xr,MJ L3 Ue,fun _ _ _ _=>none,wrs,10000⟩
theorem ac5: ∀ e∈L3,Mm.ok Tryz.prog e:=fun e he=>(List.mem_cons.1 he).elim (fun h=>h▸r5) (ac4 e)
theorem ac6:KOk Tryz.prog K8:=⟨EP,ER EN ac5,fun n f ts h t h' e=>by cases e⟩
def acn(a b:Int)(f r:Bool):Mm:=⟨17,[flT,fnT,.sl 0 f [.int a,.int b]],.bool r,none⟩
theorem r7:Mm.ok Tryz.prog (acn 0 0 true false):=Mm.of (d:=38) ac6 (by kernel_rfl) fun n=>by kernel_rfl
theorem r8:Mm.ok Tryz.prog (acn 1 0 false true):=Mm.of (d:=38) ac6 (by kernel_rfl) fun n=>by kernel_rfl
def L4:List Mm:=acn 0 0 true false::acn 1 0 false true::L3
def K9:Know:=⟨Xr,MJ L4 Ue,fun _ _ _ _=>none,wrs,10000⟩
theorem af4: ∀ e∈L4,Mm.ok Tryz.prog e:=fun e he=>(List.mem_cons.1 he).elim (fun h=>h▸r7) fun he=>(List.mem_cons.1 he).elim (fun h=>h▸r8) (ac5 e)
theorem ac7:KOk Tryz.prog K9:=⟨EP,ER EN af4,fun n f ts h t h' e=>by cases e⟩
theorem aal:yP K9 (yf K9 40) false 0 19 []=some (.bool true,none):=by kernel_rfl
theorem S.nN:aj Tryz.prog 19 [] (.bool true):=by
 have:=aal
 rw[aac,ac2] at this
 obtain⟨tf,h1,h2,h3,_⟩:=Hq ac7 (acX ac7 40) rfl this
 exact qL.afY h2 h1 (h3 rfl)
end Go.Proofs.YtkomllaebngbfaaGreatDoor
