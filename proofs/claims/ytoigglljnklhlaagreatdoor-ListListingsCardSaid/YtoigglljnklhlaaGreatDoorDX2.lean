/- Joined. -/
import Derived.Test.YtoigglljnklhlaaGreatDoorCards
import Derived.ProofKit
import Derived.SevenTiedAt
set_option maxHeartbeats 8000000
set_option maxRecDepth 100000
namespace Go.Proofs.YtoigglljnklhlaaGreatDoor.lawListListings
set_option maxRecDepth 100000
theorem eX {a b:Bool} (h:a=true) (k:b=true):(a && b)=true:=by rw[h,k];rfl
theorem j0:(Rows.listListingsRow.wf (OpenSpec.ofChange (OpenSpec.ofChange Rows.listListingsSpec).bare))=true:=by kernel_rfl
theorem j1:(laidOutB Tryz.pinned.checked.prog)=true:=by kernel_rfl
theorem j2:(mapsRowed Tryz.pinned.checked.prog)=true:=by kernel_rfl
theorem j3:(Tryz.f5.params.all (Tryz.pinned.checked.prog.readableRec ·))=true:=by kernel_rfl
theorem j4:(namedTie Tryz.pinned.checked.prog Rows.listListingsRow.named (OpenSpec.ofChange Rows.listListingsSpec).bare.vars)=true:=by kernel_rfl
theorem j5:((Rows.listListingsRow.stops == []))=true:=by kernel_rfl
theorem j6:((Tryz.pinned.checked.prog.stops == []))=true:=by kernel_rfl
theorem j7:((Rows.listListingsRow.knobs == []))=true:=by kernel_rfl
theorem j8:((Tryz.pinned.checked.prog.stopKnobs == []))=true:=by kernel_rfl
theorem j9:((Rows.listListingsRow.inPlace == Tryz.pinned.checked.prog.inPlace 5))=true:=by kernel_rfl
theorem j10:((Rows.listListingsRow.unfollowed == Tryz.pinned.checked.prog.unfollowed 5))=true:=by kernel_rfl
theorem j11:((Rows.listListingsRow.recurses == Tryz.pinned.checked.prog.recurses 5))=true:=by kernel_rfl
theorem j12:((Rows.listListingsRow.named == Tryz.pinned.checked.prog.varsNamed 5))=true:=by kernel_rfl
theorem j13:((Rows.listListingsRow.maps == (Tryz.f5.params.toList++(OpenSpec.ofChange Rows.listListingsSpec).bare.plain.varTypes Tryz.pinned.checked.prog).any (Tryz.pinned.checked.prog.mapsRec ·)))=true:=by kernel_rfl
theorem j14:((Rows.listListingsRow.ifaces == (Tryz.f5.params.toList++(OpenSpec.ofChange Rows.listListingsSpec).bare.plain.varTypes Tryz.pinned.checked.prog).any (Tryz.pinned.checked.prog.ifacesRec ·)))=true:=by kernel_rfl
theorem j15:((Rows.listListingsRow.mapsOut == Tryz.pinned.checked.prog.mapsAmong Tryz.f5.resultTypes.toList))=true:=by kernel_rfl
theorem j16:((Rows.listListingsRow.loops == (Tryz.f5.params.toList++(OpenSpec.ofChange Rows.listListingsSpec).bare.plain.varTypes Tryz.pinned.checked.prog).any (Tryz.pinned.checked.prog.loopsFrom ·)))=true:=by kernel_rfl
theorem j17:((Rows.listListingsRow.wideKeys == (Tryz.f5.params.toList++(OpenSpec.ofChange Rows.listListingsSpec).bare.plain.varTypes Tryz.pinned.checked.prog++Tryz.f5.resultTypes.toList).any (Tryz.pinned.checked.prog.wideKeysFrom ·)))=true:=by kernel_rfl
theorem j18:((OpenSpec.ofChange Rows.listListingsSpec).bare.vars.all (Tryz.pinned.checked.prog.varReadable ·))=true:=by kernel_rfl
theorem j19:(Tryz.f5.resultTypes.all (fun t=>Tryz.pinned.checked.prog.readableRec t && decide (t<Tryz.pinned.checked.prog.types.size)))=true:=by kernel_rfl
theorem j20:((Rows.listListingsRow.ifacesOut == Tryz.f5.resultTypes.toList.any (Tryz.pinned.checked.prog.ifacesRec ·)))=true:=by kernel_rfl
theorem j21:((Rows.listListingsRow.loopsOut == Tryz.f5.resultTypes.toList.any (Tryz.pinned.checked.prog.loopsFrom ·)))=true:=by kernel_rfl
theorem j22:((Rows.listListingsRow.plainKeys == Tryz.pinned.checked.prog.plainKeys))=true:=by kernel_rfl
theorem j23:(Rows.listListingsRow.shortTexts.isNone)=true:=by kernel_rfl
theorem j24:(Tryz.pinned.checked.prog.stopsHeard)=true:=by kernel_rfl
theorem j25:(Tryz.pinned.checked.prog.mayEnter)=true:=by kernel_rfl
theorem j26:((Rows.listListingsRow.lifted == Tryz.pinned.checked.prog.liftsFinal))=true:=by kernel_rfl
theorem j27:((Tryz.pinned.checked.prog.make == some Rows.listListingsRow.make))=true:=by kernel_rfl
theorem j28:((Rows.listListingsRow.kinds == (if Rows.listListingsRow.domain.isEmpty then [] else Tryz.f5.params.toList.map fun t=>match Tryz.pinned.checked.prog.underlying t with|some (.int k)=>some k|_=>none)))=true:=by kernel_rfl
theorem j29:((Rows.listListingsRow.pinned == Rows.listListingsRow.pinnedBy))=true:=by kernel_rfl
theorem j30:((Rows.listListingsRow.veiled == (Tryz.f5.params.toList++(OpenSpec.ofChange Rows.listListingsSpec).bare.plain.varTypes Tryz.pinned.checked.prog++Tryz.f5.resultTypes.toList).any (Tryz.pinned.checked.prog.veiledRec ·)))=true:=by kernel_rfl
theorem j31:(Rows.listListingsRow.veiledFits Tryz.pinned.checked.prog Tryz.f5.params.toList (Tryz.f5.params.toList++(OpenSpec.ofChange Rows.listListingsSpec).bare.plain.varTypes Tryz.pinned.checked.prog++Tryz.f5.resultTypes.toList))=true:=by kernel_rfl
theorem Xv:joinedFacts Tryz.pinned.checked.prog 5 Tryz.f5 (OpenSpec.ofChange Rows.listListingsSpec).bare Rows.listListingsRow=true:=by
 unfold joinedFacts;exact (eX (eX (eX (eX (eX (eX (eX (eX (eX (eX (eX (eX (eX (eX (eX (eX (eX (eX (eX (eX (eX (eX (eX (eX (eX (eX (eX (eX (eX (eX (eX j0 j1) j2) j3) j4) j5) j6) j7) j8) j9) j10) j11) j12) j13) j14) j15) j16) j17) j18) j19) j20) j21) j22) j23) j24) j25) j26) j27) j28) j29) j30) j31)
theorem Wp:Rows.listListingsRow.wfByText (OpenSpec.ofChange Rows.listListingsSpec)=true:=by kernel_rfl
theorem aBv:false=Rows.listListingsRow.goesBy Tryz.pinned.checked.prog:=by kernel_rfl
end Go.Proofs.YtoigglljnklhlaaGreatDoor.lawListListings
