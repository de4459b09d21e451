/- Joined. -/
import Derived.Test.YtoigglljnklhlaaGreatDoorD33
import Derived.Lib.SmallJoins
set_option maxHeartbeats 8000000
set_option maxRecDepth 100000
namespace Go.Proofs.YtoigglljnklhlaaGreatDoor
open Go.RowKit Go.Sort
end Go.Proofs.YtoigglljnklhlaaGreatDoor
namespace Go.Proofs.YtoigglljnklhlaaGreatDoor
open Go.RowKit Go.Sort
open Go.ChangeShapes Go.WideShapes
open Go.Proofs.Tryz
instance:Inhabited RgX:=⟨((0,[]),.slice none 0 0)⟩
theorem cellsByte:prog.cellsOf 5=1:=by kernel_rfl
theorem yK {H:Type} {enc:TypeId × Value→H} {W:World} {base fuel:Nat} {spare:Nat→Bool} {held:Bool} {v:Value} {y:DataW H × List MemPlace}
 (hf:DataW.trod enc prog W base spare held fuel 33 [v]=some y):∃ L,Row W v L.length (aT L)∧L.length≤maxLen:=by
 rcases open_ints underlying33 underlying5 cellsByte hf with⟨hcs,_⟩|⟨a,len,cap,zs,hcs,_,hl,hm,hz,_,hcell,hwz⟩
 · simp at hcs
   subst hcs;exact⟨[],Row.nil _,Nat.zero_le _⟩
 · simp at hcs
   subst hcs;have hle:len≤zs.length:=by rw[hz];split<;>omega
   have hlen:((zs.take len).map fun n=>UInt8.ofNat n.toNat).length=len:=by simp;omega
   refine⟨(zs.take len).map fun n=>UInt8.ofNat n.toNat,⟨some a,cap,by rw[hlen],by rw[hlen];exact hl,fun hne=>?_⟩,by rw[hlen];omega⟩
   obtain⟨b,o,spot⟩:=a;have hpos:0<len:=by
    rcases Nat.eq_zero_or_pos len with h0|h0
    · subst h0;exact absurd rfl hne
    · exact h0
   have h0:=hcell 0 om;have hspot:spot=none:=by simpa[Addr.add] using World.cell?_spot h0
   subst hspot;have hlt:b<W.heap.size:=by
    simp[World.cell?] at h0
    rcases hh:W.heap[b]? with _|x
    · simp[Addr.add,hh] at h0
    · exact (Array.getElem?_eq_some_iff.1 hh).1
   refine⟨b,o,rfl,hlt,fun j hj=>?_⟩;rw[fS,hlen] at hj;have hcj:=hcell j om;rw[bD] at hcj;rw[hcj];have hb:=range_u8 hwz j;have e:zs[j]?.getD 0=zs[j]'om:=by simp[List.getElem?_eq_getElem (show j<zs.length by omega)]
   rw[e] at hb;rw[List.getD_eq_getElem?_getD,e];have hg:((zs.take len).map fun n=>UInt8.ofNat n.toNat)[j]? = some (UInt8.ofNat (zs[j]'om).toNat):=by
    rw[List.getElem?_map,List.getElem?_take_of_lt hj,List.getElem?_eq_getElem om];rfl
   rw[oS hg];congr 2
   simp only[UInt8.toNat_ofNat'];omega
end Go.Proofs.YtoigglljnklhlaaGreatDoor
namespace Go.Proofs.YtoigglljnklhlaaGreatDoor
open Go.RowKit Go.Sort
open Go.Proofs.Tryz
theorem aBZ {H:Type} {enc:TypeId × Value→H} {W w:World} {r:Reach} {base b0:Nat} {spare:Nat→Bool} {held:Bool} {v:Value} {d:DataW H} {p:List MemPlace}
 (hv:Value.okWide prog w r b0 33 v) (h:DataW.Trod enc prog W base spare held 33 v d p):∃ L,Row W v L.length (aT L)∧L.length≤maxLen:=by
 obtain⟨a,len,cap,rfl⟩:=Go.WideShapes.okWide_slice underlying33 hv;obtain⟨m,hm⟩:=h;exact yK hm
end Go.Proofs.YtoigglljnklhlaaGreatDoor
