/-
 A part of the proof. No condition.
-/
import Derived.Test.YtdloaandiobgdaaGreatDoorCards
import Derived.Test.YtdloaandiobgdaaGreatDoorTie
import Derived.ProofKit
import Derived.Test.YtdloaandiobgdaaGreatDoorTa
import Derived.Test.YtdloaandiobgdaaGreatDoorLg
namespace Go.Proofs.YtdloaandiobgdaaGreatDoor
open Go Go.Ab Go.Proofs Go.ChangeShapes Go.WideShapes Go.ChangeAt Go.RowKit
set_option maxRecDepth 100000
theorem agD:Tryz.pinned.checked.prog.mayEnter=true:=by kernel_rfl
theorem ajf:(Rows.coverSoundUptoRow.lifted==Tryz.pinned.checked.prog.liftsFinal)=true:=by kernel_rfl
theorem ajg:(Tryz.pinned.checked.prog.make==some Rows.coverSoundUptoRow.make)=true:=by kernel_rfl
theorem ajh:Tryz.pinned.checked.prog.mainIs=some (Rows.coverSoundUptoCard.stood.harness.1,Rows.coverSoundUptoCard.stood.harness.2.toList):=by kernel_rfl
theorem aa1:laidOutB Tryz.prog=true:=by kernel_rfl
theorem agE:mapsRowed Tryz.pinned.checked.prog=true:=by kernel_rfl
theorem agF:(Tryz.pinned.checked.prog.stops==[])=true:=by kernel_rfl
theorem agG:(Tryz.pinned.checked.prog.stopKnobs==[])=true:=by kernel_rfl
theorem aji:(Rows.coverSoundUptoRow.plainKeys==Tryz.pinned.checked.prog.plainKeys)=true:=by kernel_rfl
theorem agH:Tryz.pinned.checked.prog.stopsHeard=true:=by kernel_rfl
theorem agI:false=Tryz.pinned.checked.prog.looks []:=by kernel_rfl
end Go.Proofs.YtdloaandiobgdaaGreatDoor
namespace Go.Proofs.YtdloaandiobgdaaGreatDoor
open Go Go.Ab Go.Proofs Go.ChangeShapes Go.WideShapes Go.ChangeAt Go.RowKit
set_option maxRecDepth 100000
theorem ade{P:Program}{f:FuncId}{fn:Func}{s:ChangeSpec}{c:OpenClaim}(a1:laidOutB P=true)(a2:mapsRowed P=true)(a3:(P.stops==[])=true)(a4:(P.stopKnobs==[])=true)(a5:P.stopsHeard=true)(a6:P.mayEnter=true)(a7:(c.lifted==P.liftsFinal)=true)(a8:(P.make==some c.make)=true)(a9:(c.plainKeys==P.plainKeys)=true)
  (b1:(c.inPlace==P.inPlace f)=true) (b2:(c.unfollowed==P.unfollowed f)=true) (b3:(c.recurses==P.recurses f)=true) (b4:(c.named==P.varsNamed f)=true) (b5:(c.loops==(fn.params.toList++s.plain.varTypes P).any (P.loopsFrom ·))=true)
  (h1:(c.wf (OpenSpec.ofChange s)&&fn.params.all (P.readableRec ·)&&namedTie P c.named s.vars&&(c.stops==[])&&(c.knobs==[])&&(c.maps==(fn.params.toList++s.plain.varTypes P).any (P.mapsRec ·))&&(c.ifaces==(fn.params.toList++s.plain.varTypes P).any (P.ifacesRec ·))&&(c.mapsOut==P.mapsAmong fn.resultTypes.toList))=true)
  (h2:((c.wideKeys==(fn.params.toList++s.plain.varTypes P++fn.resultTypes.toList).any (P.wideKeysFrom ·))&&s.vars.all (P.varReadable ·)&&fn.resultTypes.all (fun t=>P.readableRec t&&decide (t<P.types.size))&&(c.ifacesOut==fn.resultTypes.toList.any (P.ifacesRec ·))&&(c.loopsOut==fn.resultTypes.toList.any (P.loopsFrom ·))&&c.shortTexts.isNone&&(c.kinds==(if c.domain.isEmpty then [] else fn.params.toList.map fun t=>match P.underlying t with|some (.int k)=>some k|_=>none))&&(c.pinned==c.pinnedBy)&&(c.veiled==(fn.params.toList++s.plain.varTypes P++fn.resultTypes.toList).any (P.veiledRec ·))&&c.veiledFits P fn.params.toList (fn.params.toList++s.plain.varTypes P++fn.resultTypes.toList))=true):joinedFacts P f fn s c=true:=by
 simp only[aD] at h1 h2;obtain⟨⟨⟨⟨⟨⟨⟨c1,c2⟩,c3⟩,c4⟩,c5⟩,c6⟩,c7⟩,c8⟩:=h1;obtain⟨⟨⟨⟨⟨⟨⟨⟨⟨d1,d2⟩,d3⟩,d4⟩,d5⟩,d6⟩,d7⟩,d8⟩,d9⟩,d10⟩:=h2;unfold joinedFacts;simp only[aD];exact⟨⟨⟨⟨⟨⟨⟨⟨⟨⟨⟨⟨⟨⟨⟨⟨⟨⟨⟨⟨⟨⟨⟨⟨⟨⟨⟨⟨⟨⟨⟨c1,a1⟩,a2⟩,c2⟩,c3⟩,c4⟩,a3⟩,c5⟩,a4⟩,b1⟩,b2⟩,b3⟩,b4⟩,c6⟩,c7⟩,c8⟩,b5⟩,d1⟩,d2⟩,d3⟩,d4⟩,d5⟩,a9⟩,d6⟩,a5⟩,a6⟩,a7⟩,a8⟩,d7⟩,d8⟩,d9⟩,d10⟩
end Go.Proofs.YtdloaandiobgdaaGreatDoor
