/-
 What can be come to in the example, and its space. No condition.
-/
import Derived.Test.YtkomllaebngbfaaGreatDoorOa
namespace Go.Proofs.YtkomllaebngbfaaGreatDoor
open Go.Ab Go.Proofs
set_option maxRecDepth 100000
def fl6:List T:=[DU 1 0,DU 1 1,DU 1 2,DU 2 0,DU 2 1,DU 2 2]
def ZU:Mm:=⟨87,[flT,fnT],.any,some (50,3,fl6)⟩
theorem r4:Mm.ok Tryz.prog ZU:=Mm.of (d:=38) afs (by kernel_rfl) fun n=>by kernel_rfl
def L2:List Mm:=ZU::L1
def K7:Know:=⟨Xh,MV L2 Ud,fun _ _ _ _=>none,wrs,10000⟩
theorem acA: ∀ e∈L2,Mm.ok Tryz.prog e:=fun e he=>(List.mem_cons.1 he).elim (fun h=>h▸r4) (acz e)
theorem aft:KOk Tryz.prog K7:=⟨E8,E9 EZ acA,fun n f ts h t h' e=>by cases e⟩
def sl(l:List T):T:=.sl 0 false l
def spT:T:=.agg ((match flT with| .agg l=>l|_=>[])++[.sl 3 false fl6,sl (List.replicate 6 (sl [.bool true])),sl [sl [.nil],sl [.nil],sl [.nil],sl [sl [.int 1,.int 4]],sl [sl [.int 2,.int 5]],sl [sl [.int 2,.int 5]]]])
def afu:Mm:=⟨67,[flT,fnT],spT,none⟩
theorem r5:Mm.ok Tryz.prog afu:=Mm.of (d:=38) aft (by kernel_rfl) fun n=>by kernel_rfl
def L3:List Mm:=afu::L2
def K8:Know:=⟨Xh,MV L3 Ud,fun _ _ _ _=>none,wrs,10000⟩
theorem acB: ∀ e∈L3,Mm.ok Tryz.prog e:=fun e he=>(List.mem_cons.1 he).elim (fun h=>h▸r5) (acA e)
theorem acC:KOk Tryz.prog K8:=⟨E8,E9 EZ acB,fun n f ts h t h' e=>by cases e⟩
def abP(a b:Int)(f r:Bool):Mm:=⟨17,[flT,fnT,.sl 0 f [.int a,.int b]],.bool r,none⟩
theorem r7:Mm.ok Tryz.prog (abP 0 0 true false):=Mm.of (d:=38) acC (by kernel_rfl) fun n=>by kernel_rfl
theorem r8:Mm.ok Tryz.prog (abP 1 0 false true):=Mm.of (d:=38) acC (by kernel_rfl) fun n=>by kernel_rfl
def L4:List Mm:=abP 0 0 true false::abP 1 0 false true::L3
def K9:Know:=⟨Xh,MV L4 Ud,fun _ _ _ _=>none,wrs,10000⟩
theorem afv: ∀ e∈L4,Mm.ok Tryz.prog e:=fun e he=>(List.mem_cons.1 he).elim (fun h=>h▸r7) fun he=>(List.mem_cons.1 he).elim (fun h=>h▸r8) (acB e)
theorem acD:KOk Tryz.prog K9:=⟨E8,E9 EZ afv,fun n f ts h t h' e=>by cases e⟩
theorem ZV:yP K9 (yf K9 40) false 0 19 []=some (.bool true,none):=by kernel_rfl
theorem S.fJ:aj Tryz.prog 19 [] (.bool true):=by
 have:=ZV
 rw[ZL,acy] at this
 obtain⟨tf,h1,h2,h3,_⟩:=Ij acD (acr acD 40) rfl this
 exact oH.afr h2 h1 (h3 rfl)
end Go.Proofs.YtkomllaebngbfaaGreatDoor
