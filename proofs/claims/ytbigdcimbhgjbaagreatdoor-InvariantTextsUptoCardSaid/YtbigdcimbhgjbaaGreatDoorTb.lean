/-
 A part of the proof. No condition.
-/
import Derived.Test.YtbigdcimbhgjbaaGreatDoorCards
import Derived.Test.YtbigdcimbhgjbaaGreatDoorTie
import Derived.ProofKit
import Derived.Test.YtbigdcimbhgjbaaGreatDoorTa
import Derived.Test.YtbigdcimbhgjbaaGreatDoorLg
namespace Go.Proofs.YtbigdcimbhgjbaaGreatDoor
open Go Go.Ab Go.Proofs Go.ChangeShapes Go.WideShapes Go.ChangeAt Go.RowKit
set_option maxRecDepth 100000
theorem Ym:Tryz.pinned.checked.prog.mayEnter=true:=by kernel_rfl
theorem aaf:(Rows.invariantTextsUptoRow.lifted==Tryz.pinned.checked.prog.liftsFinal)=true:=by kernel_rfl
theorem aag:(Tryz.pinned.checked.prog.make==some Rows.invariantTextsUptoRow.make)=true:=by kernel_rfl
theorem aah:Tryz.pinned.checked.prog.mainIs=some (Rows.invariantTextsUptoCard.stood.harness.1,Rows.invariantTextsUptoCard.stood.harness.2.toList):=by kernel_rfl
theorem Tf:laidOutB Tryz.prog=true:=by kernel_rfl
theorem Yn:mapsRowed Tryz.pinned.checked.prog=true:=by kernel_rfl
theorem Yo:(Tryz.pinned.checked.prog.stops==[])=true:=by kernel_rfl
theorem Yp:(Tryz.pinned.checked.prog.stopKnobs==[])=true:=by kernel_rfl
theorem aai:(Rows.invariantTextsUptoRow.plainKeys==Tryz.pinned.checked.prog.plainKeys)=true:=by kernel_rfl
theorem Yq:Tryz.pinned.checked.prog.stopsHeard=true:=by kernel_rfl
theorem Yr:false=Tryz.pinned.checked.prog.looks []:=by kernel_rfl
end Go.Proofs.YtbigdcimbhgjbaaGreatDoor
namespace Go.Proofs.YtbigdcimbhgjbaaGreatDoor
open Go Go.Ab Go.Proofs Go.ChangeShapes Go.WideShapes Go.ChangeAt Go.RowKit
set_option maxRecDepth 100000
theorem Vl{P:Program}{f:FuncId}{fn:Func}{s:ChangeSpec}{c:OpenClaim}(a1:laidOutB P=true)(a2:mapsRowed P=true)(a3:(P.stops==[])=true)(a4:(P.stopKnobs==[])=true)(a5:P.stopsHeard=true)(a6:P.mayEnter=true)(a7:(c.lifted==P.liftsFinal)=true)(a8:(P.make==some c.make)=true)(a9:(c.plainKeys==P.plainKeys)=true)
  (b1:(c.inPlace==P.inPlace f)=true) (b2:(c.unfollowed==P.unfollowed f)=true) (b3:(c.recurses==P.recurses f)=true) (b4:(c.named==P.varsNamed f)=true) (b5:(c.loops==(fn.params.toList++s.plain.varTypes P).any (P.loopsFrom ·))=true)
  (h1:(c.wf (OpenSpec.ofChange s)&&fn.params.all (P.readableRec ·)&&namedTie P c.named s.vars&&(c.stops==[])&&(c.knobs==[])&&(c.maps==(fn.params.toList++s.plain.varTypes P).any (P.mapsRec ·))&&(c.ifaces==(fn.params.toList++s.plain.varTypes P).any (P.ifacesRec ·))&&(c.mapsOut==P.mapsAmong fn.resultTypes.toList))=true)
  (h2:((c.wideKeys==(fn.params.toList++s.plain.varTypes P++fn.resultTypes.toList).any (P.wideKeysFrom ·))&&s.vars.all (P.varReadable ·)&&fn.resultTypes.all (fun t=>P.readableRec t&&decide (t<P.types.size))&&(c.ifacesOut==fn.resultTypes.toList.any (P.ifacesRec ·))&&(c.loopsOut==fn.resultTypes.toList.any (P.loopsFrom ·))&&c.shortTexts.isNone&&(c.kinds==(if c.domain.isEmpty then [] else fn.params.toList.map fun t=>match P.underlying t with|some (.int k)=>some k|_=>none))&&(c.pinned==c.pinnedBy)&&(c.veiled==(fn.params.toList++s.plain.varTypes P++fn.resultTypes.toList).any (P.veiledRec ·))&&c.veiledFits P fn.params.toList (fn.params.toList++s.plain.varTypes P++fn.resultTypes.toList))=true):joinedFacts P f fn s c=true:=by
 simp only[Bool.and_eq_true] at h1 h2
 obtain⟨⟨⟨⟨⟨⟨⟨c1,c2⟩,c3⟩,c4⟩,c5⟩,c6⟩,c7⟩,c8⟩:=h1
 obtain⟨⟨⟨⟨⟨⟨⟨⟨⟨d1,d2⟩,d3⟩,d4⟩,d5⟩,d6⟩,d7⟩,d8⟩,d9⟩,d10⟩:=h2
 unfold joinedFacts
 simp only[Bool.and_eq_true]
 exact⟨⟨⟨⟨⟨⟨⟨⟨⟨⟨⟨⟨⟨⟨⟨⟨⟨⟨⟨⟨⟨⟨⟨⟨⟨⟨⟨⟨⟨⟨⟨c1,a1⟩,a2⟩,c2⟩,c3⟩,c4⟩,a3⟩,c5⟩,a4⟩,b1⟩,b2⟩,b3⟩,b4⟩,c6⟩,c7⟩,c8⟩,b5⟩,d1⟩,d2⟩,d3⟩,d4⟩,d5⟩,a9⟩,d6⟩,a5⟩,a6⟩,a7⟩,a8⟩,d7⟩,d8⟩,d9⟩,d10⟩
end Go.Proofs.YtbigdcimbhgjbaaGreatDoor
