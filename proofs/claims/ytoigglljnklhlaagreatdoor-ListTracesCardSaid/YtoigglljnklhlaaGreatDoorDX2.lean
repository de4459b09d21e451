/- Joined. -/
import Derived.Test.YtoigglljnklhlaaGreatDoorCards
import Derived.ProofKit
import Derived.SevenTiedAt
set_option maxHeartbeats 8000000
set_option maxRecDepth 100000
namespace Go.Proofs.YtoigglljnklhlaaGreatDoor.lawListTraces
set_option maxRecDepth 100000
theorem eX {a b:Bool} (h:a=true) (k:b=true):(a && b)=true:=by rw[h,k];rfl
theorem j0:(Rows.listTracesRow.wf (OpenSpec.ofChange (OpenSpec.ofChange Rows.listTracesSpec).bare))=true:=by kernel_rfl
theorem j1:(laidOutB Tryz.pinned.checked.prog)=true:=by kernel_rfl
theorem j2:(mapsRowed Tryz.pinned.checked.prog)=true:=by kernel_rfl
theorem j3:(Tryz.f6.params.all (Tryz.pinned.checked.prog.readableRec ·))=true:=by kernel_rfl
theorem j4:(namedTie Tryz.pinned.checked.prog Rows.listTracesRow.named (OpenSpec.ofChange Rows.listTracesSpec).bare.vars)=true:=by kernel_rfl
theorem j5:((Rows.listTracesRow.stops == []))=true:=by kernel_rfl
theorem j6:((Tryz.pinned.checked.prog.stops == []))=true:=by kernel_rfl
theorem j7:((Rows.listTracesRow.knobs == []))=true:=by kernel_rfl
theorem j8:((Tryz.pinned.checked.prog.stopKnobs == []))=true:=by kernel_rfl
theorem j9:((Rows.listTracesRow.inPlace == Tryz.pinned.checked.prog.inPlace 6))=true:=by kernel_rfl
theorem j10:((Rows.listTracesRow.unfollowed == Tryz.pinned.checked.prog.unfollowed 6))=true:=by kernel_rfl
theorem j11:((Rows.listTracesRow.recurses == Tryz.pinned.checked.prog.recurses 6))=true:=by kernel_rfl
theorem j12:((Rows.listTracesRow.named == Tryz.pinned.checked.prog.varsNamed 6))=true:=by kernel_rfl
theorem j13:((Rows.listTracesRow.maps == (Tryz.f6.params.toList++(OpenSpec.ofChange Rows.listTracesSpec).bare.plain.varTypes Tryz.pinned.checked.prog).any (Tryz.pinned.checked.prog.mapsRec ·)))=true:=by kernel_rfl
theorem j14:((Rows.listTracesRow.ifaces == (Tryz.f6.params.toList++(OpenSpec.ofChange Rows.listTracesSpec).bare.plain.varTypes Tryz.pinned.checked.prog).any (Tryz.pinned.checked.prog.ifacesRec ·)))=true:=by kernel_rfl
theorem j15:((Rows.listTracesRow.mapsOut == Tryz.pinned.checked.prog.mapsAmong Tryz.f6.resultTypes.toList))=true:=by kernel_rfl
theorem j16:((Rows.listTracesRow.loops == (Tryz.f6.params.toList++(OpenSpec.ofChange Rows.listTracesSpec).bare.plain.varTypes Tryz.pinned.checked.prog).any (Tryz.pinned.checked.prog.loopsFrom ·)))=true:=by kernel_rfl
theorem j17:((Rows.listTracesRow.wideKeys == (Tryz.f6.params.toList++(OpenSpec.ofChange Rows.listTracesSpec).bare.plain.varTypes Tryz.pinned.checked.prog++Tryz.f6.resultTypes.toList).any (Tryz.pinned.checked.prog.wideKeysFrom ·)))=true:=by kernel_rfl
theorem j18:((OpenSpec.ofChange Rows.listTracesSpec).bare.vars.all (Tryz.pinned.checked.prog.varReadable ·))=true:=by kernel_rfl
theorem j19:(Tryz.f6.resultTypes.all (fun t=>Tryz.pinned.checked.prog.readableRec t && decide (t<Tryz.pinned.checked.prog.types.size)))=true:=by kernel_rfl
theorem j20:((Rows.listTracesRow.ifacesOut == Tryz.f6.resultTypes.toList.any (Tryz.pinned.checked.prog.ifacesRec ·)))=true:=by kernel_rfl
theorem j21:((Rows.listTracesRow.loopsOut == Tryz.f6.resultTypes.toList.any (Tryz.pinned.checked.prog.loopsFrom ·)))=true:=by kernel_rfl
theorem j22:((Rows.listTracesRow.plainKeys == Tryz.pinned.checked.prog.plainKeys))=true:=by kernel_rfl
theorem j23:(Rows.listTracesRow.shortTexts.isNone)=true:=by kernel_rfl
theorem j24:(Tryz.pinned.checked.prog.stopsHeard)=true:=by kernel_rfl
theorem j25:(Tryz.pinned.checked.prog.mayEnter)=true:=by kernel_rfl
theorem j26:((Rows.listTracesRow.lifted == Tryz.pinned.checked.prog.liftsFinal))=true:=by kernel_rfl
theorem j27:((Tryz.pinned.checked.prog.make == some Rows.listTracesRow.make))=true:=by kernel_rfl
theorem j28:((Rows.listTracesRow.kinds == (if Rows.listTracesRow.domain.isEmpty then [] else Tryz.f6.params.toList.map fun t=>match Tryz.pinned.checked.prog.underlying t with|some (.int k)=>some k|_=>none)))=true:=by kernel_rfl
theorem j29:((Rows.listTracesRow.pinned == Rows.listTracesRow.pinnedBy))=true:=by kernel_rfl
theorem j30:((Rows.listTracesRow.veiled == (Tryz.f6.params.toList++(OpenSpec.ofChange Rows.listTracesSpec).bare.plain.varTypes Tryz.pinned.checked.prog++Tryz.f6.resultTypes.toList).any (Tryz.pinned.checked.prog.veiledRec ·)))=true:=by kernel_rfl
theorem j31:(Rows.listTracesRow.veiledFits Tryz.pinned.checked.prog Tryz.f6.params.toList (Tryz.f6.params.toList++(OpenSpec.ofChange Rows.listTracesSpec).bare.plain.varTypes Tryz.pinned.checked.prog++Tryz.f6.resultTypes.toList))=true:=by kernel_rfl
theorem aPN:joinedFacts Tryz.pinned.checked.prog 6 Tryz.f6 (OpenSpec.ofChange Rows.listTracesSpec).bare Rows.listTracesRow=true:=by
 unfold joinedFacts;exact (eX (eX (eX (eX (eX (eX (eX (eX (eX (eX (eX (eX (eX (eX (eX (eX (eX (eX (eX (eX (eX (eX (eX (eX (eX (eX (eX (eX (eX (eX (eX j0 j1) j2) j3) j4) j5) j6) j7) j8) j9) j10) j11) j12) j13) j14) j15) j16) j17) j18) j19) j20) j21) j22) j23) j24) j25) j26) j27) j28) j29) j30) j31)
theorem Wp:Rows.listTracesRow.wfByText (OpenSpec.ofChange Rows.listTracesSpec)=true:=by kernel_rfl
theorem aBv:false=Rows.listTracesRow.goesBy Tryz.pinned.checked.prog:=by kernel_rfl
end Go.Proofs.YtoigglljnklhlaaGreatDoor.lawListTraces
