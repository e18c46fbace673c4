/-
 What can be come to in the example, and its space. No condition.
-/
import Derived.Test.YtajmbgljnaljiaaGreatDoorOa
namespace Go.Proofs.YtajmbgljnaljiaaGreatDoor
open Go.Ab Go.Proofs
set_option maxRecDepth 100000
def fl6:List T:=[Dx 1 0,Dx 1 1,Dx 1 2,Dx 2 0,Dx 2 1,Dx 2 2]
def aar:Mm:=⟨23,[flT,fnT],.any,some (54,3,fl6)⟩
theorem r4:Mm.ok Tryz.prog aar:=Mm.of (d:=38) af8 (by kernel_rfl) fun n=>by kernel_rfl
def L2:List Mm:=aar::L1
def K7:Know:=⟨Xr,MK L2 TY,fun _ _ _ _=>none,wrs,10000⟩
theorem adg: ∀ e∈L2,Mm.ok Tryz.prog e:=fun e he=>(List.mem_cons.1 he).elim (fun h=>h▸r4) (adf e)
theorem af9:KOk Tryz.prog K7:=⟨EO,EP EM adg,fun n f ts h t h' e=>by cases e⟩
def sl(l:List T):T:=.sl 0 false l
def spT:T:=.agg ((match flT with| .agg l=>l|_=>[])++[.sl 3 false fl6,sl (List.replicate 6 (sl [.bool true])),sl [sl [.nil],sl [.nil],sl [.nil],sl [sl [.int 1,.int 4]],sl [sl [.int 2,.int 5]],sl [sl [.int 2,.int 5]]]])
def aga:Mm:=⟨34,[flT,fnT],spT,none⟩
theorem r5:Mm.ok Tryz.prog aga:=Mm.of (d:=38) af9 (by kernel_rfl) fun n=>by kernel_rfl
def L3:List Mm:=aga::L2
def K8:Know:=⟨Xr,MK L3 TY,fun _ _ _ _=>none,wrs,10000⟩
theorem adh: ∀ e∈L3,Mm.ok Tryz.prog e:=fun e he=>(List.mem_cons.1 he).elim (fun h=>h▸r5) (adg e)
theorem adi:KOk Tryz.prog K8:=⟨EO,EP EM adh,fun n f ts h t h' e=>by cases e⟩
def acD(a b:Int)(f r:Bool):Mm:=⟨15,[flT,fnT,.sl 0 f [.int a,.int b]],.bool r,none⟩
theorem r7:Mm.ok Tryz.prog (acD 0 0 true false):=Mm.of (d:=38) adi (by kernel_rfl) fun n=>by kernel_rfl
theorem r8:Mm.ok Tryz.prog (acD 1 0 false true):=Mm.of (d:=38) adi (by kernel_rfl) fun n=>by kernel_rfl
def L4:List Mm:=acD 0 0 true false::acD 1 0 false true::L3
def K9:Know:=⟨Xr,MK L4 TY,fun _ _ _ _=>none,wrs,10000⟩
theorem agb: ∀ e∈L4,Mm.ok Tryz.prog e:=fun e he=>(List.mem_cons.1 he).elim (fun h=>h▸r7) fun he=>(List.mem_cons.1 he).elim (fun h=>h▸r8) (adh e)
theorem adk:KOk Tryz.prog K9:=⟨EO,EP EM agb,fun n f ts h t h' e=>by cases e⟩
theorem aas:yP K9 (yf K9 40) false 0 11 []=some (.bool true,none):=by kernel_rfl
theorem S.pG:aj Tryz.prog 11 [] (.bool true):=by
 have:=aas
 rw[aaj,ade] at this
 obtain⟨tf,h1,h2,h3,_⟩:=Hu adk (ac7 adk 40) rfl this
 exact qL.af7 h2 h1 (h3 rfl)
end Go.Proofs.YtajmbgljnaljiaaGreatDoor
