/- Joined. -/
import Derived.Test.YtoigglljnklhlaaGreatDoorCards
import Derived.Test.YtoigglljnklhlaaGreatDoorD39
import Derived.Lib.SmallJoins
import Derived.SevenTiedAt
set_option maxHeartbeats 8000000
set_option maxRecDepth 100000
namespace Go.Proofs.YtoigglljnklhlaaGreatDoor.lawListRuns
set_option maxRecDepth 100000
theorem eX {a b:Bool} (h:a=true) (k:b=true):(a && b)=true:=by rw[h,k];rfl
theorem j0:(Rows.listRunsRow.wf (OpenSpec.ofChange (OpenSpec.ofChange Rows.listRunsSpec).bare))=true:=by kernel_rfl
theorem j1:(laidOutB Tryz.pinned.checked.prog)=true:=by kernel_rfl
theorem j2:(mapsRowed Tryz.pinned.checked.prog)=true:=by kernel_rfl
theorem j3:(Tryz.f3.params.all (Tryz.pinned.checked.prog.readableRec ·))=true:=by kernel_rfl
theorem j4:(namedTie Tryz.pinned.checked.prog Rows.listRunsRow.named (OpenSpec.ofChange Rows.listRunsSpec).bare.vars)=true:=by kernel_rfl
theorem j5:((Rows.listRunsRow.stops == []))=true:=by kernel_rfl
theorem j6:((Tryz.pinned.checked.prog.stops == []))=true:=by kernel_rfl
theorem j7:((Rows.listRunsRow.knobs == []))=true:=by kernel_rfl
theorem j8:((Tryz.pinned.checked.prog.stopKnobs == []))=true:=by kernel_rfl
theorem j9:((Rows.listRunsRow.inPlace == Tryz.pinned.checked.prog.inPlace 3))=true:=by kernel_rfl
theorem j10:((Rows.listRunsRow.unfollowed == Tryz.pinned.checked.prog.unfollowed 3))=true:=by kernel_rfl
theorem j11:((Rows.listRunsRow.recurses == Tryz.pinned.checked.prog.recurses 3))=true:=by kernel_rfl
theorem j12:((Rows.listRunsRow.named == Tryz.pinned.checked.prog.varsNamed 3))=true:=by kernel_rfl
theorem j13:((Rows.listRunsRow.maps == (Tryz.f3.params.toList++(OpenSpec.ofChange Rows.listRunsSpec).bare.plain.varTypes Tryz.pinned.checked.prog).any (Tryz.pinned.checked.prog.mapsRec ·)))=true:=by kernel_rfl
theorem j14:((Rows.listRunsRow.ifaces == (Tryz.f3.params.toList++(OpenSpec.ofChange Rows.listRunsSpec).bare.plain.varTypes Tryz.pinned.checked.prog).any (Tryz.pinned.checked.prog.ifacesRec ·)))=true:=by kernel_rfl
theorem j15:((Rows.listRunsRow.mapsOut == Tryz.pinned.checked.prog.mapsAmong Tryz.f3.resultTypes.toList))=true:=by kernel_rfl
theorem j16:((Rows.listRunsRow.loops == (Tryz.f3.params.toList++(OpenSpec.ofChange Rows.listRunsSpec).bare.plain.varTypes Tryz.pinned.checked.prog).any (Tryz.pinned.checked.prog.loopsFrom ·)))=true:=by kernel_rfl
theorem j17:((Rows.listRunsRow.wideKeys == (Tryz.f3.params.toList++(OpenSpec.ofChange Rows.listRunsSpec).bare.plain.varTypes Tryz.pinned.checked.prog++Tryz.f3.resultTypes.toList).any (Tryz.pinned.checked.prog.wideKeysFrom ·)))=true:=by kernel_rfl
theorem j18:((OpenSpec.ofChange Rows.listRunsSpec).bare.vars.all (Tryz.pinned.checked.prog.varReadable ·))=true:=by kernel_rfl
theorem j19:(Tryz.f3.resultTypes.all (fun t=>Tryz.pinned.checked.prog.readableRec t && decide (t<Tryz.pinned.checked.prog.types.size)))=true:=by kernel_rfl
theorem j20:((Rows.listRunsRow.ifacesOut == Tryz.f3.resultTypes.toList.any (Tryz.pinned.checked.prog.ifacesRec ·)))=true:=by kernel_rfl
theorem j21:((Rows.listRunsRow.loopsOut == Tryz.f3.resultTypes.toList.any (Tryz.pinned.checked.prog.loopsFrom ·)))=true:=by kernel_rfl
theorem j22:((Rows.listRunsRow.plainKeys == Tryz.pinned.checked.prog.plainKeys))=true:=by kernel_rfl
theorem j23:(Rows.listRunsRow.shortTexts.isNone)=true:=by kernel_rfl
theorem j24:(Tryz.pinned.checked.prog.stopsHeard)=true:=by kernel_rfl
theorem j25:(Tryz.pinned.checked.prog.mayEnter)=true:=by kernel_rfl
theorem j26:((Rows.listRunsRow.lifted == Tryz.pinned.checked.prog.liftsFinal))=true:=by kernel_rfl
theorem j27:((Tryz.pinned.checked.prog.make == some Rows.listRunsRow.make))=true:=by kernel_rfl
theorem j28:((Rows.listRunsRow.kinds == (if Rows.listRunsRow.domain.isEmpty then [] else Tryz.f3.params.toList.map fun t=>match Tryz.pinned.checked.prog.underlying t with|some (.int k)=>some k|_=>none)))=true:=by kernel_rfl
theorem j29:((Rows.listRunsRow.pinned == Rows.listRunsRow.pinnedBy))=true:=by kernel_rfl
theorem j30:((Rows.listRunsRow.veiled == (Tryz.f3.params.toList++(OpenSpec.ofChange Rows.listRunsSpec).bare.plain.varTypes Tryz.pinned.checked.prog++Tryz.f3.resultTypes.toList).any (Tryz.pinned.checked.prog.veiledRec ·)))=true:=by kernel_rfl
theorem j31:(Rows.listRunsRow.veiledFits Tryz.pinned.checked.prog Tryz.f3.params.toList (Tryz.f3.params.toList++(OpenSpec.ofChange Rows.listRunsSpec).bare.plain.varTypes Tryz.pinned.checked.prog++Tryz.f3.resultTypes.toList))=true:=by kernel_rfl
theorem Xv:joinedFacts Tryz.pinned.checked.prog 3 Tryz.f3 (OpenSpec.ofChange Rows.listRunsSpec).bare Rows.listRunsRow=true:=by
 unfold joinedFacts;exact (eX (eX (eX (eX (eX (eX (eX (eX (eX (eX (eX (eX (eX (eX (eX (eX (eX (eX (eX (eX (eX (eX (eX (eX (eX (eX (eX (eX (eX (eX (eX j0 j1) j2) j3) j4) j5) j6) j7) j8) j9) j10) j11) j12) j13) j14) j15) j16) j17) j18) j19) j20) j21) j22) j23) j24) j25) j26) j27) j28) j29) j30) j31)
theorem Wp:Rows.listRunsRow.wfByText (OpenSpec.ofChange Rows.listRunsSpec)=true:=by kernel_rfl
theorem aBv:false=Rows.listRunsRow.goesBy Tryz.pinned.checked.prog:=by kernel_rfl
end Go.Proofs.YtoigglljnklhlaaGreatDoor.lawListRuns
namespace Go.Proofs.YtoigglljnklhlaaGreatDoor
open Go.RowKit Go.Sort
open Go.Proofs.Tryz
theorem gF {α:Type} (f:Nat→α) (n:Nat):((List.range n).map f).length=n:=by simp
theorem wI {H α:Type} [Inhabited α] (f:α→List Value) (Q:α→Prop) (sz:Nat) (hf:∀ x,(f x).length=sz) (hs:0<sz) {T E:TypeId} (hT:prog.underlying T=some (.slice E)) (hsz:prog.cellsOf E=sz)
 {enc:TypeId × Value→H} {W w:World} {r:Reach} {base b0:Nat} {spare:Nat→Bool} {held:Bool} {v:Value} {d:DataW H} {p:List MemPlace}
 (hel:∀ (cs:List Value) (n:Nat) (y:DataW H × List MemPlace),cs.length=sz→DataW.trod enc prog W base spare held n E cs=some y→∃ x,cs=f x∧Q x)
 (hv:Value.okWide prog w r b0 T v) (h:DataW.Trod enc prog W base spare held T v d p):∃ L:List α,Row W v L.length (L.flatMap f)∧L.length≤maxLen∧∀ x∈L,Q x:=by
 obtain⟨a,len,cap,rfl⟩:=Go.WideShapes.okWide_slice hT hv;obtain⟨fuel,hfu⟩:=h;rcases Deep.open_slice hT hfu with⟨he,_⟩|⟨a',len',cap',m,n,D,Pl,he,hb,hl,hm,hmm,hx,hel2⟩
 · simp[Value.cells] at he
   obtain⟨rfl,rfl,rfl⟩:=he;exact⟨[],Row.nil _,by unfold maxLen;simp,fun x hx=>by cases hx⟩
 · simp[Value.cells] at he
   obtain⟨rfl,rfl,rfl⟩:=he;have hlm:len≤m:=by rw[hmm];split<;>omega
   obtain⟨g,hfi⟩:=Deep.choose_lt (α:=α) (n:=len) (p:=fun i x=>Q x∧∀ j,j<sz→W.cell? ((a'.add (i*sz)).add j)=(f x)[j]?) (fun i hi=>by
    obtain⟨cs',hc1,hc2⟩:=hel2 i om;rw[hsz] at hc1;obtain⟨_,hlen,hcell⟩:=World.cells?_some hc1;obtain⟨x,rfl,hq⟩:=hel cs' _ _ hlen hc2;refine⟨x,hq,fun j hj=>?_⟩;simpa using hcell j om)
   refine⟨(List.range len).map g,⟨some a',cap,by rw[gF],by rw[gF];exact hl,fun hne=>?_⟩,by rw[gF];omega,fun x hx=>?_⟩
   rotate_left
   · obtain⟨i,hi,rfl⟩:=List.mem_map.1 hx;exact (hfi i (by simpa using hi)).1
   obtain⟨b,o,spot⟩:=a';have hpos:0<len:=by
    rcases Nat.eq_zero_or_pos len with h0|h0
    · subst h0;exact absurd rfl hne
    · exact h0
   have h0:=(hfi 0 hpos).2 0 hs;rw[List.getElem?_eq_getElem (by rw[hf];exact hs)] at h0;have hspot:spot=none:=by simpa[Addr.add] using World.cell?_spot h0
   subst hspot;have hlt:b<W.heap.size:=by
    simp[World.cell?] at h0
    rcases hh:W.heap[b]? with _|x
    · simp[Addr.add,hh] at h0
    · exact (Array.getElem?_eq_some_iff.1 hh).1
   refine⟨b,o,rfl,hlt,fun j hj=>?_⟩;rw[iN f sz hf,gF] at hj;have hd:=Nat.div_add_mod j sz;have hmod:=Nat.mod_lt j hs;have hj3:j/sz<len:=Nat.div_lt_of_lt_mul (by rw[Nat.mul_comm];exact hj);have h1:=(hfi (j/sz) hj3).2 (j%sz) hmod;have h2:=oJ f sz hf ((List.range len).map g) (j/sz) (g (j/sz)) (by simp[hj3]) (j%sz) hmod;rw[Nat.mul_comm] at hd;rw[hd] at h2;rw[h2,←h1,bD,bD,Nat.add_assoc,hd]
end Go.Proofs.YtoigglljnklhlaaGreatDoor
namespace Go.Proofs.YtoigglljnklhlaaGreatDoor
open Go.RowKit Go.Sort
open Go.ChangeShapes Go.WideShapes
open Go.Proofs.Tryz
instance:Inhabited RgX:=⟨((0,[]),.slice none 0 0)⟩
theorem cellsByte:prog.cellsOf 5=1:=by kernel_rfl
theorem yK {H:Type} {enc:TypeId × Value→H} {W:World} {base fuel:Nat} {spare:Nat→Bool} {held:Bool} {v:Value} {y:DataW H × List MemPlace}
 (hf:DataW.trod enc prog W base spare held fuel 33 [v]=some y):∃ L,Row W v L.length (aT L)∧L.length≤maxLen:=by
 rcases open_ints underlying33 underlying5 cellsByte hf with⟨hcs,_⟩|⟨a,len,cap,zs,hcs,_,hl,hm,hz,_,hcell,hwz⟩
 · simp at hcs
   subst hcs;exact⟨[],Row.nil _,Nat.zero_le _⟩
 · simp at hcs
   subst hcs;have hle:len≤zs.length:=by rw[hz];split<;>omega
   have hlen:((zs.take len).map fun n=>UInt8.ofNat n.toNat).length=len:=by simp;omega
   refine⟨(zs.take len).map fun n=>UInt8.ofNat n.toNat,⟨some a,cap,by rw[hlen],by rw[hlen];exact hl,fun hne=>?_⟩,by rw[hlen];omega⟩
   obtain⟨b,o,spot⟩:=a;have hpos:0<len:=by
    rcases Nat.eq_zero_or_pos len with h0|h0
    · subst h0;exact absurd rfl hne
    · exact h0
   have h0:=hcell 0 om;have hspot:spot=none:=by simpa[Addr.add] using World.cell?_spot h0
   subst hspot;have hlt:b<W.heap.size:=by
    simp[World.cell?] at h0
    rcases hh:W.heap[b]? with _|x
    · simp[Addr.add,hh] at h0
    · exact (Array.getElem?_eq_some_iff.1 hh).1
   refine⟨b,o,rfl,hlt,fun j hj=>?_⟩;rw[fS,hlen] at hj;have hcj:=hcell j om;rw[bD] at hcj;rw[hcj];have hb:=range_u8 hwz j;have e:zs[j]?.getD 0=zs[j]'om:=by simp[List.getElem?_eq_getElem (show j<zs.length by omega)]
   rw[e] at hb;rw[List.getD_eq_getElem?_getD,e];have hg:((zs.take len).map fun n=>UInt8.ofNat n.toNat)[j]? = some (UInt8.ofNat (zs[j]'om).toNat):=by
    rw[List.getElem?_map,List.getElem?_take_of_lt hj,List.getElem?_eq_getElem om];rfl
   rw[oS hg];congr 2
   simp only[UInt8.toNat_ofNat'];omega
theorem Gs {H:Type} {enc:TypeId × Value→H} {W w:World} {r:Reach} {base b0:Nat} {spare:Nat→Bool} {held:Bool} {v:Value} {d:DataW H} {p:List MemPlace}
 (hv:Value.okWide prog w r b0 22 v) (h:DataW.Trod enc prog W base spare held 22 v d p):∃ L:List RgX,RgAt W v L∧L.length≤maxLen:=by
 have hsi:prog.cellsOf 3=1:=by kernel_rfl
 have hss:prog.cellsOf 33=1:=by kernel_rfl
 obtain⟨L,h1,h2,h3⟩:=wI Xd (fun x=>Row W x.2 x.1.2.length (aT x.1.2)) 2 (fun _=>rfl) dc underlying22 kr (fun cs n y hl hy=>by
  obtain⟨xs,n,_,_,_,hlen,hg⟩:=DataW.trod_struct underlying35 hy;match cs,hl with
  | [u0,u1],_ =>
    match xs,hlen with
    | [y0,y1],_ =>
      have g0:_=some y0:=hg 0 _ rfl;have g1:_=some y1:=hg 1 _ rfl;obtain⟨z0,k0,_,_⟩:=DataW.trod_int underlying3 g0;simp[hsi] at k0
      subst k0;obtain⟨bs,hr,_⟩:=yK (v:=u1) (by simpa[hsi,hss] using g1);exact⟨((z0,bs),u1),rfl,hr⟩) hv h
 exact⟨L,⟨h1,h3⟩,h2⟩
end Go.Proofs.YtoigglljnklhlaaGreatDoor
