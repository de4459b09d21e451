/- Joined. -/
import Derived.Test.YtoigglljnklhlaaGreatDoorCards
import Derived.ProofKit
import Derived.SevenTiedAt
set_option maxHeartbeats 8000000
set_option maxRecDepth 100000
namespace Go.Proofs.YtoigglljnklhlaaGreatDoor.lawListNil
set_option maxRecDepth 100000
theorem eX {a b:Bool} (h:a=true) (k:b=true):(a && b)=true:=by rw[h,k];rfl
theorem j0:(Rows.listNilRow.wf (OpenSpec.ofChange (OpenSpec.ofChange Rows.listNilSpec).bare))=true:=by kernel_rfl
theorem j1:(laidOutB Tryz.pinned.checked.prog)=true:=by kernel_rfl
theorem j2:(mapsRowed Tryz.pinned.checked.prog)=true:=by kernel_rfl
theorem j3:(Tryz.f7.params.all (Tryz.pinned.checked.prog.readableRec ·))=true:=by kernel_rfl
theorem j4:(namedTie Tryz.pinned.checked.prog Rows.listNilRow.named (OpenSpec.ofChange Rows.listNilSpec).bare.vars)=true:=by kernel_rfl
theorem j5:((Rows.listNilRow.stops == []))=true:=by kernel_rfl
theorem j6:((Tryz.pinned.checked.prog.stops == []))=true:=by kernel_rfl
theorem j7:((Rows.listNilRow.knobs == []))=true:=by kernel_rfl
theorem j8:((Tryz.pinned.checked.prog.stopKnobs == []))=true:=by kernel_rfl
theorem j9:((Rows.listNilRow.inPlace == Tryz.pinned.checked.prog.inPlace 7))=true:=by kernel_rfl
theorem j10:((Rows.listNilRow.unfollowed == Tryz.pinned.checked.prog.unfollowed 7))=true:=by kernel_rfl
theorem j11:((Rows.listNilRow.recurses == Tryz.pinned.checked.prog.recurses 7))=true:=by kernel_rfl
theorem j12:((Rows.listNilRow.named == Tryz.pinned.checked.prog.varsNamed 7))=true:=by kernel_rfl
theorem j13:((Rows.listNilRow.maps == (Tryz.f7.params.toList++(OpenSpec.ofChange Rows.listNilSpec).bare.plain.varTypes Tryz.pinned.checked.prog).any (Tryz.pinned.checked.prog.mapsRec ·)))=true:=by kernel_rfl
theorem j14:((Rows.listNilRow.ifaces == (Tryz.f7.params.toList++(OpenSpec.ofChange Rows.listNilSpec).bare.plain.varTypes Tryz.pinned.checked.prog).any (Tryz.pinned.checked.prog.ifacesRec ·)))=true:=by kernel_rfl
theorem j15:((Rows.listNilRow.mapsOut == Tryz.pinned.checked.prog.mapsAmong Tryz.f7.resultTypes.toList))=true:=by kernel_rfl
theorem j16:((Rows.listNilRow.loops == (Tryz.f7.params.toList++(OpenSpec.ofChange Rows.listNilSpec).bare.plain.varTypes Tryz.pinned.checked.prog).any (Tryz.pinned.checked.prog.loopsFrom ·)))=true:=by kernel_rfl
theorem j17:((Rows.listNilRow.wideKeys == (Tryz.f7.params.toList++(OpenSpec.ofChange Rows.listNilSpec).bare.plain.varTypes Tryz.pinned.checked.prog++Tryz.f7.resultTypes.toList).any (Tryz.pinned.checked.prog.wideKeysFrom ·)))=true:=by kernel_rfl
theorem j18:((OpenSpec.ofChange Rows.listNilSpec).bare.vars.all (Tryz.pinned.checked.prog.varReadable ·))=true:=by kernel_rfl
theorem j19:(Tryz.f7.resultTypes.all (fun t=>Tryz.pinned.checked.prog.readableRec t && decide (t<Tryz.pinned.checked.prog.types.size)))=true:=by kernel_rfl
theorem j20:((Rows.listNilRow.ifacesOut == Tryz.f7.resultTypes.toList.any (Tryz.pinned.checked.prog.ifacesRec ·)))=true:=by kernel_rfl
theorem j21:((Rows.listNilRow.loopsOut == Tryz.f7.resultTypes.toList.any (Tryz.pinned.checked.prog.loopsFrom ·)))=true:=by kernel_rfl
theorem j22:((Rows.listNilRow.plainKeys == Tryz.pinned.checked.prog.plainKeys))=true:=by kernel_rfl
theorem j23:(Rows.listNilRow.shortTexts.isNone)=true:=by kernel_rfl
theorem j24:(Tryz.pinned.checked.prog.stopsHeard)=true:=by kernel_rfl
theorem j25:(Tryz.pinned.checked.prog.mayEnter)=true:=by kernel_rfl
theorem j26:((Rows.listNilRow.lifted == Tryz.pinned.checked.prog.liftsFinal))=true:=by kernel_rfl
theorem j27:((Tryz.pinned.checked.prog.make == some Rows.listNilRow.make))=true:=by kernel_rfl
theorem j28:((Rows.listNilRow.kinds == (if Rows.listNilRow.domain.isEmpty then [] else Tryz.f7.params.toList.map fun t=>match Tryz.pinned.checked.prog.underlying t with|some (.int k)=>some k|_=>none)))=true:=by kernel_rfl
theorem j29:((Rows.listNilRow.pinned == Rows.listNilRow.pinnedBy))=true:=by kernel_rfl
theorem j30:((Rows.listNilRow.veiled == (Tryz.f7.params.toList++(OpenSpec.ofChange Rows.listNilSpec).bare.plain.varTypes Tryz.pinned.checked.prog++Tryz.f7.resultTypes.toList).any (Tryz.pinned.checked.prog.veiledRec ·)))=true:=by kernel_rfl
theorem j31:(Rows.listNilRow.veiledFits Tryz.pinned.checked.prog Tryz.f7.params.toList (Tryz.f7.params.toList++(OpenSpec.ofChange Rows.listNilSpec).bare.plain.varTypes Tryz.pinned.checked.prog++Tryz.f7.resultTypes.toList))=true:=by kernel_rfl
theorem Xv:joinedFacts Tryz.pinned.checked.prog 7 Tryz.f7 (OpenSpec.ofChange Rows.listNilSpec).bare Rows.listNilRow=true:=by
 unfold joinedFacts;exact (eX (eX (eX (eX (eX (eX (eX (eX (eX (eX (eX (eX (eX (eX (eX (eX (eX (eX (eX (eX (eX (eX (eX (eX (eX (eX (eX (eX (eX (eX (eX j0 j1) j2) j3) j4) j5) j6) j7) j8) j9) j10) j11) j12) j13) j14) j15) j16) j17) j18) j19) j20) j21) j22) j23) j24) j25) j26) j27) j28) j29) j30) j31)
theorem Wp:Rows.listNilRow.wfByText (OpenSpec.ofChange Rows.listNilSpec)=true:=by kernel_rfl
theorem aBv:false=Rows.listNilRow.goesBy Tryz.pinned.checked.prog:=by kernel_rfl
end Go.Proofs.YtoigglljnklhlaaGreatDoor.lawListNil
