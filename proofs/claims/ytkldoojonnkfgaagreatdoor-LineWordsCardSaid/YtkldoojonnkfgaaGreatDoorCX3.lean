/- Joined texts: JoinLWords. -/
import Derived.Test.YtkldoojonnkfgaaGreatDoorCards
import Derived.ProofKit
import Derived.SevenTiedAt
namespace Go.Proofs.YtkldoojonnkfgaaGreatDoor.lawLineWords
set_option maxRecDepth 100000
theorem bAnd {a b:Bool} (h:a=true) (k:b=true):(a && b)=true:=by rw [h,k]; rfl
theorem j0:(Rows.lineWordsRow.wf (OpenSpec.ofChange (OpenSpec.ofChange Rows.lineWordsSpec).bare))=true:=by kernel_rfl
theorem j1:(laidOutB Tryz.pinned.checked.prog)=true:=by kernel_rfl
theorem j2:(mapsRowed Tryz.pinned.checked.prog)=true:=by kernel_rfl
theorem j3:(Tryz.f6.params.all (Tryz.pinned.checked.prog.readableRec ·))=true:=by kernel_rfl
theorem j4:(namedTie Tryz.pinned.checked.prog Rows.lineWordsRow.named (OpenSpec.ofChange Rows.lineWordsSpec).bare.vars)=true:=by kernel_rfl
theorem j5:((Rows.lineWordsRow.stops == []))=true:=by kernel_rfl
theorem j6:((Tryz.pinned.checked.prog.stops == []))=true:=by kernel_rfl
theorem j7:((Rows.lineWordsRow.knobs == []))=true:=by kernel_rfl
theorem j8:((Tryz.pinned.checked.prog.stopKnobs == []))=true:=by kernel_rfl
theorem j9:((Rows.lineWordsRow.inPlace == Tryz.pinned.checked.prog.inPlace 6))=true:=by kernel_rfl
theorem j10:((Rows.lineWordsRow.unfollowed == Tryz.pinned.checked.prog.unfollowed 6))=true:=by kernel_rfl
theorem j11:((Rows.lineWordsRow.recurses == Tryz.pinned.checked.prog.recurses 6))=true:=by kernel_rfl
theorem j12:((Rows.lineWordsRow.named == Tryz.pinned.checked.prog.varsNamed 6))=true:=by kernel_rfl
theorem j13:((Rows.lineWordsRow.maps == (Tryz.f6.params.toList++(OpenSpec.ofChange Rows.lineWordsSpec).bare.plain.varTypes Tryz.pinned.checked.prog).any (Tryz.pinned.checked.prog.mapsRec ·)))=true:=by kernel_rfl
theorem j14:((Rows.lineWordsRow.ifaces == (Tryz.f6.params.toList++(OpenSpec.ofChange Rows.lineWordsSpec).bare.plain.varTypes Tryz.pinned.checked.prog).any (Tryz.pinned.checked.prog.ifacesRec ·)))=true:=by kernel_rfl
theorem j15:((Rows.lineWordsRow.mapsOut == Tryz.pinned.checked.prog.mapsAmong Tryz.f6.resultTypes.toList))=true:=by kernel_rfl
theorem j16:((Rows.lineWordsRow.loops == (Tryz.f6.params.toList++(OpenSpec.ofChange Rows.lineWordsSpec).bare.plain.varTypes Tryz.pinned.checked.prog).any (Tryz.pinned.checked.prog.loopsFrom ·)))=true:=by kernel_rfl
theorem j17:((Rows.lineWordsRow.wideKeys == (Tryz.f6.params.toList++(OpenSpec.ofChange Rows.lineWordsSpec).bare.plain.varTypes Tryz.pinned.checked.prog++Tryz.f6.resultTypes.toList).any (Tryz.pinned.checked.prog.wideKeysFrom ·)))=true:=by kernel_rfl
theorem j18:((OpenSpec.ofChange Rows.lineWordsSpec).bare.vars.all (Tryz.pinned.checked.prog.varReadable ·))=true:=by kernel_rfl
theorem j19:(Tryz.f6.resultTypes.all (fun t=>Tryz.pinned.checked.prog.readableRec t && decide (t<Tryz.pinned.checked.prog.types.size)))=true:=by kernel_rfl
theorem j20:((Rows.lineWordsRow.ifacesOut == Tryz.f6.resultTypes.toList.any (Tryz.pinned.checked.prog.ifacesRec ·)))=true:=by kernel_rfl
theorem j21:((Rows.lineWordsRow.loopsOut == Tryz.f6.resultTypes.toList.any (Tryz.pinned.checked.prog.loopsFrom ·)))=true:=by kernel_rfl
theorem j22:((Rows.lineWordsRow.plainKeys == Tryz.pinned.checked.prog.plainKeys))=true:=by kernel_rfl
theorem j23:(Rows.lineWordsRow.shortTexts.isNone)=true:=by kernel_rfl
theorem j24:(Tryz.pinned.checked.prog.stopsHeard)=true:=by kernel_rfl
theorem j25:(Tryz.pinned.checked.prog.mayEnter)=true:=by kernel_rfl
theorem j26:((Rows.lineWordsRow.lifted == Tryz.pinned.checked.prog.liftsFinal))=true:=by kernel_rfl
theorem j27:((Tryz.pinned.checked.prog.make == some Rows.lineWordsRow.make))=true:=by kernel_rfl
theorem j28:((Rows.lineWordsRow.kinds == (if Rows.lineWordsRow.domain.isEmpty then [] else Tryz.f6.params.toList.map fun t=>match Tryz.pinned.checked.prog.underlying t with | some (.int k)=>some k | _=>none)))=true:=by kernel_rfl
theorem j29:((Rows.lineWordsRow.pinned == Rows.lineWordsRow.pinnedBy))=true:=by kernel_rfl
theorem j30:((Rows.lineWordsRow.veiled == (Tryz.f6.params.toList++(OpenSpec.ofChange Rows.lineWordsSpec).bare.plain.varTypes Tryz.pinned.checked.prog++Tryz.f6.resultTypes.toList).any (Tryz.pinned.checked.prog.veiledRec ·)))=true:=by kernel_rfl
theorem j31:(Rows.lineWordsRow.veiledFits Tryz.pinned.checked.prog Tryz.f6.params.toList (Tryz.f6.params.toList++(OpenSpec.ofChange Rows.lineWordsSpec).bare.plain.varTypes Tryz.pinned.checked.prog++Tryz.f6.resultTypes.toList))=true:=by kernel_rfl
theorem joined:joinedFacts Tryz.pinned.checked.prog 6 Tryz.f6 (OpenSpec.ofChange Rows.lineWordsSpec).bare Rows.lineWordsRow=true:=by
 unfold joinedFacts
 exact (bAnd (bAnd (bAnd (bAnd (bAnd (bAnd (bAnd (bAnd (bAnd (bAnd (bAnd (bAnd (bAnd (bAnd (bAnd (bAnd (bAnd (bAnd (bAnd (bAnd (bAnd (bAnd (bAnd (bAnd (bAnd (bAnd (bAnd (bAnd (bAnd (bAnd (bAnd j0 j1) j2) j3) j4) j5) j6) j7) j8) j9) j10) j11) j12) j13) j14) j15) j16) j17) j18) j19) j20) j21) j22) j23) j24) j25) j26) j27) j28) j29) j30) j31)
theorem wfText:Rows.lineWordsRow.wfByText (OpenSpec.ofChange Rows.lineWordsSpec)=true:=by kernel_rfl
theorem goes:false=Rows.lineWordsRow.goesBy Tryz.pinned.checked.prog:=by kernel_rfl
end Go.Proofs.YtkldoojonnkfgaaGreatDoor.lawLineWords
