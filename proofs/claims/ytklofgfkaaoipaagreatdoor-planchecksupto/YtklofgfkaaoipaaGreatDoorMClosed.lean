/-
  THE CLOSED FACTS of the row, each by itself.
-/
import Derived.Test.YtklofgfkaaoipaaGreatDoorCards
import Derived.Test.YtklofgfkaaoipaaGreatDoorTie
import Derived.WalkKit
import Derived.ProofKit
import Derived.JoinedOf
set_option maxHeartbeats 16000000
set_option maxRecDepth 100000
set_option linter.unusedSimpArgs false
set_option linter.unusedVariables false
namespace Go.Proofs.YtklofgfkaaoipaaGreatDoor
open Go.Proofs.Tryz
theorem zg3:prog.closure 3=[3,4,10,14,29,60,61,62,63,95,96,97,31,64,98,143,192,216,99,144,145,146,193,217,218,194,219,232,220,221,234,244,258,270,271,138,275,276,272,273,277,278,279,280,233,222,147,148,149,150,195,151,196,223,235,236,237,245,65,100,101,152,153,197,154,155,156,157,158,198,224,238,246,259,274,199,247,32,66,102,159,160,106,165,162,161,200,103,34,104,105,163,164,201,21,202,225,239,69,67,68,107,108,166,170,112,203,226,240,241,227,242,248,260,249,250,261,251,252,253,254,255,256,262,263,264,265,266,267,268,269,228,110,111,167,109,70,71,33,72,113,168,114,115,169,116,74,118,73,117,171,172,75,76,120,173,121,122,124,174,175,176,204,177,178,205,179,206,229,212,208,207,209,210,180,211,213,123,126,185,184,125,18,37,16,35,78,38,81,47,86,87,89,88,139,90,91,128,79,127,182,183,80,181,214,230,231,243,257,119,22,48,49,19,39,40,41,77,20,42,83,137,82,129,36,130,186,131,187,188,132,189,190,215,133,134,135,136,43,44,84,45,46,85,11,6,13,15,17,5,12,7,23,50,24,51,52,59,53,54,25,26,55,56,93,140,141,191,142,92,27,57,94,58,28,8,9,30]:=by kernel_rfl
theorem k1:Rows.planChecksUptoRow.wf (OpenSpec.ofChange (Rows.OpenSpec.upto Rows.planChecksSpec).bare)=true:=by kernel_rfl
theorem k2:laidOutB prog=true:=by kernel_rfl
theorem k3:mapsRowed prog=true:=by kernel_rfl
theorem k4:Tryz.f3.params.all (prog.readableRec ·)=true:=by kernel_rfl
theorem k5:namedTie prog Rows.planChecksUptoRow.named (Rows.OpenSpec.upto Rows.planChecksSpec).bare.vars=true:=by kernel_rfl
theorem k6:(Rows.planChecksUptoRow.stops==[])=true:=by kernel_rfl
theorem k7:(prog.stops==[])=true:=by kernel_rfl
theorem k8:(Rows.planChecksUptoRow.knobs==[])=true:=by kernel_rfl
theorem k9:(prog.stopKnobs==[])=true:=by kernel_rfl
theorem k10:(Rows.planChecksUptoRow.inPlace==prog.inPlace 3)=true:=by unfold Program.inPlace;rw [zg3];kernel_rfl
theorem k11:(Rows.planChecksUptoRow.unfollowed==prog.unfollowed 3)=true:=by unfold Program.unfollowed;rw [zg3];kernel_rfl
theorem k12:(Rows.planChecksUptoRow.recurses==prog.recurses 3)=true:=by unfold Program.recurses;rw [show prog.unfollowed 3=true from (beq_iff_eq.1 k11).symm];kernel_rfl
theorem k13:(Rows.planChecksUptoRow.named==prog.varsNamed 3)=true:=by unfold Program.varsNamed;rw [zg3];kernel_rfl
theorem k14:(Rows.planChecksUptoRow.maps==(Tryz.f3.params.toList++(Rows.OpenSpec.upto Rows.planChecksSpec).bare.plain.varTypes prog).any (prog.mapsRec ·))=true:=by kernel_rfl
theorem k15:(Rows.planChecksUptoRow.ifaces==(Tryz.f3.params.toList++(Rows.OpenSpec.upto Rows.planChecksSpec).bare.plain.varTypes prog).any (prog.ifacesRec ·))=true:=by kernel_rfl
theorem k16:(Rows.planChecksUptoRow.mapsOut==prog.mapsAmong Tryz.f3.resultTypes.toList)=true:=by kernel_rfl
theorem k17:(Rows.planChecksUptoRow.loops==(Tryz.f3.params.toList++(Rows.OpenSpec.upto Rows.planChecksSpec).bare.plain.varTypes prog).any (prog.loopsFrom ·))=true:=by kernel_rfl
theorem zqK:(Rows.planChecksUptoRow.wideKeys==(Tryz.f3.params.toList++(Rows.OpenSpec.upto Rows.planChecksSpec).bare.plain.varTypes prog++Tryz.f3.resultTypes.toList).any (prog.wideKeysFrom ·))=true:=by kernel_rfl
theorem k18:(Rows.OpenSpec.upto Rows.planChecksSpec).bare.vars.all (prog.varReadable ·)=true:=by kernel_rfl
theorem k19:Tryz.f3.resultTypes.all (fun a=>prog.readableRec a&&decide (a<prog.types.size))=true:=by kernel_rfl
theorem k20:(Rows.planChecksUptoRow.ifacesOut==Tryz.f3.resultTypes.toList.any (prog.ifacesRec ·))=true:=by kernel_rfl
theorem k21:(Rows.planChecksUptoRow.loopsOut==Tryz.f3.resultTypes.toList.any (prog.loopsFrom ·))=true:=by kernel_rfl
theorem k22:(Rows.planChecksUptoRow.plainKeys==prog.plainKeys)=true:=by kernel_rfl
theorem k23:Rows.planChecksUptoRow.shortTexts.isNone=true:=by kernel_rfl
theorem zqL:prog.stopsHeard=true:=by kernel_rfl
theorem k24:prog.mayEnter=true:=by kernel_rfl
theorem zqM:(Rows.planChecksUptoRow.lifted==prog.liftsFinal)=true:=by kernel_rfl
theorem zqN:(prog.make==some Rows.planChecksUptoRow.make)=true:=by kernel_rfl
theorem k25:(Rows.planChecksUptoRow.kinds==(if Rows.planChecksUptoRow.domain.isEmpty then [] else Tryz.f3.params.toList.map fun a=>match prog.underlying a with | some (.int b)=>some b | _=>none))=true:=by kernel_rfl
theorem k26:(Rows.planChecksUptoRow.pinned==Rows.planChecksUptoRow.pinnedBy)=true:=by kernel_rfl
theorem k27:(Rows.planChecksUptoRow.veiled==(Tryz.f3.params.toList++(Rows.OpenSpec.upto Rows.planChecksSpec).bare.plain.varTypes prog++Tryz.f3.resultTypes.toList).any (prog.veiledRec ·))=true:=by kernel_rfl
theorem k28:Rows.planChecksUptoRow.veiledFits prog Tryz.f3.params.toList (Tryz.f3.params.toList++(Rows.OpenSpec.upto Rows.planChecksSpec).bare.plain.varTypes prog++Tryz.f3.resultTypes.toList)=true:=by kernel_rfl
theorem QZ {a b:Bool}(c:a=true)(g:b=true):(a&&b)=true:=by rw [c,g];rfl
theorem zgl:joinedFacts prog 3 Tryz.f3 (Rows.OpenSpec.upto Rows.planChecksSpec).bare Rows.planChecksUptoRow=true:=QZ (QZ (QZ (QZ (QZ (QZ (QZ (QZ (QZ (QZ (QZ (QZ (QZ (QZ (QZ (QZ (QZ (QZ (QZ (QZ (QZ (QZ (QZ (QZ (QZ (QZ (QZ (QZ (QZ (QZ (QZ k1 k2) k3) k4) k5) k6) k7) k8) k9) k10) k11) k12) k13) k14) k15) k16) k17) zqK) k18) k19) k20) k21) k22) k23) zqL) k24) zqM) zqN) k25) k26) k27) k28
end Go.Proofs.YtklofgfkaaoipaaGreatDoor
