/-
 What can be come to in the example, and its space. No condition.
-/
import Derived.Test.YtkomllaebngbfaaGreatDoorOa
namespace Go.Proofs.YtkomllaebngbfaaGreatDoor
open Go.Ab Go.Proofs
set_option maxRecDepth 100000
def fl6:List T:=[AL 1 0,AL 1 1,AL 1 2,AL 2 0,AL 2 1,AL 2 2]
def V4:Mm:=⟨87,[WL,fnT],.any,some (50,3,fl6)⟩
theorem r4:Mm.ok Tryz.prog V4:=Mm.of (d:=38) ab2 (by kernel_rfl) fun n=>by kernel_rfl
def L2:List Mm:=V4::L1
def K7:Know:=⟨SQ,Jc L2 Pz,fun _ _ _ _=>none,wrs,10000⟩
theorem Y8: ∀ e∈L2,Mm.ok Tryz.prog e:=fun e he=>(List.mem_cons.1 he).elim (fun h=>h▸r4) (Y7 e)
theorem ab3:XM Tryz.prog K7:=⟨Ce,Ci Cb Y8,fun n f ts h t h' e=>by cases e⟩
def sl(l:List T):T:=.sl 0 false l
def spT:T:=.agg ((match WL with| .agg l=>l|_=>[])++[.sl 3 false fl6,sl (List.replicate 6 (sl [.bool true])),sl [sl [.nil],sl [.nil],sl [.nil],sl [sl [.int 1,.int 4]],sl [sl [.int 2,.int 5]],sl [sl [.int 2,.int 5]]]])
def ab4:Mm:=⟨67,[WL,fnT],spT,none⟩
theorem r5:Mm.ok Tryz.prog ab4:=Mm.of (d:=38) ab3 (by kernel_rfl) fun n=>by kernel_rfl
def L3:List Mm:=ab4::L2
def K8:Know:=⟨SQ,Jc L3 Pz,fun _ _ _ _=>none,wrs,10000⟩
theorem Y9: ∀ e∈L3,Mm.ok Tryz.prog e:=fun e he=>(List.mem_cons.1 he).elim (fun h=>h▸r5) (Y8 e)
theorem Za:XM Tryz.prog K8:=⟨Ce,Ci Cb Y9,fun n f ts h t h' e=>by cases e⟩
def Yt(a b:Int)(f r:Bool):Mm:=⟨17,[WL,fnT,.sl 0 f [.int a,.int b]],.bool r,none⟩
theorem r7:Mm.ok Tryz.prog (Yt 0 0 true false):=Mm.of (d:=38) Za (by kernel_rfl) fun n=>by kernel_rfl
theorem r8:Mm.ok Tryz.prog (Yt 1 0 false true):=Mm.of (d:=38) Za (by kernel_rfl) fun n=>by kernel_rfl
def L4:List Mm:=Yt 0 0 true false::Yt 1 0 false true::L3
def K9:Know:=⟨SQ,Jc L4 Pz,fun _ _ _ _=>none,wrs,10000⟩
theorem ab5: ∀ e∈L4,Mm.ok Tryz.prog e:=fun e he=>(List.mem_cons.1 he).elim (fun h=>h▸r7) fun he=>(List.mem_cons.1 he).elim (fun h=>h▸r8) (Y9 e)
theorem Zb:XM Tryz.prog K9:=⟨Ce,Ci Cb ab5,fun n f ts h t h' e=>by cases e⟩
theorem V5:yP K9 (yf K9 40) false 0 19 []=some (.bool true,none):=by kernel_rfl
theorem S.fH:aj Tryz.prog 19 [] (.bool true):=by
 have:=V5
 rw[VR,Y5] at this
 obtain⟨tf,h1,h2,h3,_⟩:=EI Zb (YX Zb 40) rfl this
 exact oV.ab1 h2 h1 (h3 rfl)
end Go.Proofs.YtkomllaebngbfaaGreatDoor
