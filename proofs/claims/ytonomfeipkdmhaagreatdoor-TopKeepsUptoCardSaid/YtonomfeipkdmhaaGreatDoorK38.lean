/- Part 38: lemmas. -/
import Derived.Test.YtonomfeipkdmhaaGreatDoorK00
import Derived.JoinedCond
import Derived.ProofKit
import Derived.SevenTiedAt
set_option linter.unusedVariables false
set_option linter.unusedSimpArgs false
set_option maxRecDepth 100000
set_option maxHeartbeats 16000000
namespace Go.Proofs.YtonomfeipkdmhaaGreatDoor.topKeeps
open Go.Proofs.Tryz
set_option maxRecDepth 100000
theorem fact0:(Rows.topKeepsUptoRow.wf (OpenSpec.ofChange (Rows.OpenSpec.upto Rows.topKeepsSpec).bare))=true:=by kernel_rfl
theorem fact1:(laidOutB prog)=true:=by kernel_rfl
theorem fact2:(mapsRowed prog)=true:=by kernel_rfl
theorem fact3:(Tryz.f4.params.all (prog.readableRec ·))=true:=by kernel_rfl
theorem fact4:(namedTie prog Rows.topKeepsUptoRow.named (Rows.OpenSpec.upto Rows.topKeepsSpec).bare.vars)=true:=by kernel_rfl
theorem fact5:((Rows.topKeepsUptoRow.stops==[]))=true:=by kernel_rfl
theorem fact6:((prog.stops==[]))=true:=by kernel_rfl
theorem fact7:((Rows.topKeepsUptoRow.knobs==[]))=true:=by kernel_rfl
theorem fact8:((prog.stopKnobs==[]))=true:=by kernel_rfl
theorem fact9:((Rows.topKeepsUptoRow.inPlace==prog.inPlace 4))=true:=by kernel_rfl
theorem fact10:((Rows.topKeepsUptoRow.unfollowed==prog.unfollowed 4))=true:=by kernel_rfl
theorem fact11:((Rows.topKeepsUptoRow.recurses==prog.recurses 4))=true:=by kernel_rfl
theorem fact12:((Rows.topKeepsUptoRow.named==prog.varsNamed 4))=true:=by kernel_rfl
theorem fact13:((Rows.topKeepsUptoRow.maps==(Tryz.f4.params.toList++(Rows.OpenSpec.upto Rows.topKeepsSpec).bare.plain.varTypes prog).any (prog.mapsRec ·)))=true:=by kernel_rfl
theorem fact14:((Rows.topKeepsUptoRow.ifaces==(Tryz.f4.params.toList++(Rows.OpenSpec.upto Rows.topKeepsSpec).bare.plain.varTypes prog).any (prog.ifacesRec ·)))=true:=by kernel_rfl
theorem fact15:((Rows.topKeepsUptoRow.mapsOut==prog.mapsAmong Tryz.f4.resultTypes.toList))=true:=by kernel_rfl
theorem fact16:((Rows.topKeepsUptoRow.loops==(Tryz.f4.params.toList++(Rows.OpenSpec.upto Rows.topKeepsSpec).bare.plain.varTypes prog).any (prog.loopsFrom ·)))=true:=by kernel_rfl
theorem fact17:((Rows.topKeepsUptoRow.wideKeys==(Tryz.f4.params.toList++(Rows.OpenSpec.upto Rows.topKeepsSpec).bare.plain.varTypes prog++Tryz.f4.resultTypes.toList).any (prog.wideKeysFrom ·)))=true:=by kernel_rfl
theorem fact18:((Rows.OpenSpec.upto Rows.topKeepsSpec).bare.vars.all (prog.varReadable ·))=true:=by kernel_rfl
theorem fact19:(Tryz.f4.resultTypes.all (fun t=>prog.readableRec t && decide (t<prog.types.size)))=true:=by kernel_rfl
theorem fact20:((Rows.topKeepsUptoRow.ifacesOut==Tryz.f4.resultTypes.toList.any (prog.ifacesRec ·)))=true:=by kernel_rfl
theorem fact21:((Rows.topKeepsUptoRow.loopsOut==Tryz.f4.resultTypes.toList.any (prog.loopsFrom ·)))=true:=by kernel_rfl
theorem fact22:((Rows.topKeepsUptoRow.plainKeys==prog.plainKeys))=true:=by kernel_rfl
theorem fact23:(Rows.topKeepsUptoRow.shortTexts.isNone)=true:=by kernel_rfl
theorem fact24:(prog.stopsHeard)=true:=by kernel_rfl
theorem fact25:(prog.mayEnter)=true:=by kernel_rfl
theorem fact26:((Rows.topKeepsUptoRow.lifted==prog.liftsFinal))=true:=by kernel_rfl
theorem fact27:((prog.make==some Rows.topKeepsUptoRow.make))=true:=by kernel_rfl
theorem fact28:((Rows.topKeepsUptoRow.kinds==(if Rows.topKeepsUptoRow.domain.isEmpty then [] else Tryz.f4.params.toList.map fun t=>match prog.underlying t with | some (.int k)=>some k | _=>none)))=true:=by kernel_rfl
theorem fact29:((Rows.topKeepsUptoRow.pinned==Rows.topKeepsUptoRow.pinnedBy))=true:=by kernel_rfl
theorem fact30:((Rows.topKeepsUptoRow.veiled==(Tryz.f4.params.toList++(Rows.OpenSpec.upto Rows.topKeepsSpec).bare.plain.varTypes prog++Tryz.f4.resultTypes.toList).any (prog.veiledRec ·)))=true:=by kernel_rfl
theorem fact31:(Rows.topKeepsUptoRow.veiledFits prog Tryz.f4.params.toList (Tryz.f4.params.toList++(Rows.OpenSpec.upto Rows.topKeepsSpec).bare.plain.varTypes prog++Tryz.f4.resultTypes.toList))=true:=by kernel_rfl
theorem both {a b:Bool} (h:a=true) (k:b=true):(a && b)=true:=by rw [h,k];rfl
theorem closed:joinedFacts prog 4 Tryz.f4 (Rows.OpenSpec.upto Rows.topKeepsSpec).bare Rows.topKeepsUptoRow=true:=(both (both (both (both (both (both (both (both (both (both (both (both (both (both (both (both (both (both (both (both (both (both (both (both (both (both (both (both (both (both (both fact0 fact1) fact2) fact3) fact4) fact5) fact6) fact7) fact8) fact9) fact10) fact11) fact12) fact13) fact14) fact15) fact16) fact17) fact18) fact19) fact20) fact21) fact22) fact23) fact24) fact25) fact26) fact27) fact28) fact29) fact30) fact31)
theorem looksNot:false=prog.looks []:=by kernel_rfl
theorem goesNot:false=Rows.topKeepsUptoRow.goesBy prog:=by kernel_rfl
theorem byText:Rows.topKeepsUptoRow.wfByText (Rows.OpenSpec.upto Rows.topKeepsSpec)=true:=by kernel_rfl
theorem funcNamed:prog.funcNamed "tamis/tamistop.TopKeeps" =some 4:=by kernel_rfl
end Go.Proofs.YtonomfeipkdmhaaGreatDoor.topKeeps
