/- Joined texts: OpenOps, OpenIns. -/
import Derived.Test.YtkldoojonnkfgaaGreatDoorB32
import Derived.Lib.SmallJoins
namespace Go.Proofs.YtkldoojonnkfgaaGreatDoor
open Go.RowKit Go.Sort
theorem opc_range_len (f:Nat→Op3) (n:Nat):((List.range n).map f).length=n:=by simp
theorem opc_range:∀ (f:Nat→Op3) (n i q:Nat),i<n→q<3→(opc ((List.range n).map f))[i * 3+q]? = [Value.int .i64 (f i).1,.int .i64 (f i).2.1,.int .i64 (f i).2.2][q]? := by
 intro f n i q hi hq
 obtain ⟨e0,e1,e2⟩:=opc_get ((List.range n).map f) i (f i) (by simp [hi])
 match q,hq with
 | 0,_=>exact e0
 | 1,_=>exact e1
 | 2,_=>exact e2
set_option maxHeartbeats 400000 in
set_option maxRecDepth 100000 in
theorem open_opsF {H:Type} {enc:TypeId × Value→H} {W:World} {base fuel:Nat} {spare:Nat→Bool} {held:Bool} {v:Value} {y:DataW H × List MemPlace}
 (hf:DataW.trod enc Tryz.prog W base spare held fuel 22 [v]=some y):∃ L,Row W v L.length (opc L):=by
 rcases Deep.open_slice Tryz.underlying22 hf with ⟨he,_⟩ | ⟨a',len,cap,m,n,D,Pl,he,hb,hl,hm,hmm,hx,hel⟩
 · simp at he
   subst he
   exact ⟨[],Row.nil _⟩
 · simp at he
   subst he
   have hlm:len≤m:=by rw [hmm]; split<;>omega
   have hsz:Tryz.prog.cellsOf 172=3:=by kernel_rfl
   have hsi:Tryz.prog.cellsOf 3=1:=by kernel_rfl
   obtain ⟨f,hfi⟩:=Deep.choose_lt (α:=Op3) (n:=len) (p:=fun i x=>W.cell? (a'.add (i * 3))=some (.int .i64 x.1)∧W.cell? ((a'.add (i * 3)).add 1)=some (.int .i64 x.2.1)∧W.cell? ((a'.add (i * 3)).add 2)=some (.int .i64 x.2.2)) (fun i hi=>by
    obtain ⟨cs',hc1,hc2⟩:=hel i (by omega)
    rw [hsz] at hc1
    obtain ⟨_,hlen,hcell⟩:=World.cells?_some hc1
    obtain ⟨y0,y1,y2,n',_,_,g0,g1,g2⟩:=Deep.trod_struct3 Tryz.underlying172 hc2
    match cs',hlen with
    | [u0,u1,u2],_ =>
      obtain ⟨z0,k0,_,_⟩:=DataW.trod_int Tryz.underlying3 g0
      obtain ⟨z1,k1,_,_⟩:=DataW.trod_int Tryz.underlying3 g1
      obtain ⟨z2,k2,_,_⟩:=DataW.trod_int Tryz.underlying3 g2
      simp only [hsi] at k0 k1 k2
      simp at k0 k1 k2
      subst k0 k1 k2
      have c0:=hcell 0 (by omega)
      have c1:=hcell 1 (by omega)
      have c2:=hcell 2 (by omega)
      refine ⟨(z0,z1,z2),?_,?_,?_⟩
      · simpa [Addr.add] using c0
      · simpa using c1
      · simpa using c2)
   refine ⟨(List.range len).map f,some a',cap,by rw [opc_range_len],by rw [opc_range_len]; exact hl,fun hne=>?_⟩
   obtain ⟨b,o,spot⟩:=a'
   have hpos:0<len:=by
    rcases Nat.eq_zero_or_pos len with h0 | h0
    · subst h0; exact absurd rfl hne
    · exact h0
   have hspot:spot=none:=by simpa [Addr.add] using World.cell?_spot (hfi 0 hpos).1
   subst hspot
   have hlt:b<W.heap.size:=by
    have:=(hfi 0 hpos).1
    simp [World.cell?] at this
    rcases hh:W.heap[b]? with _ | x
    · simp [Addr.add,hh] at this
    · exact (Array.getElem?_eq_some_iff.1 hh).1
   refine ⟨b,o,rfl,hlt,fun j hj=>?_⟩
   rw [opc_len,opc_range_len] at hj
   have hd:=Nat.div_add_mod j 3
   have hmod:=Nat.mod_lt j (show 0<3 by decide)
   have hj3:j / 3<len:=by omega
   obtain ⟨e0,e1,e2⟩:=hfi (j / 3) hj3
   have:=opc_range f len (j / 3) (j % 3) hj3 hmod
   rw [show j / 3 * 3+j % 3=j by omega] at this
   rw [this]
   have ha:∀ k,(⟨b,o,none⟩:Addr).add k=⟨b,o+k,none⟩:=fun k=>addr_add _ _ _
   rw [ha] at e0 e1 e2
   rw [addr_add] at e1 e2
   have hq:j % 3=0∨j % 3=1∨j % 3=2:=by omega
   rcases hq with hq | hq | hq
   · rw [hq,show o+j=o+j / 3 * 3 by omega]; exact e0
   · rw [hq,show o+j=o+j / 3 * 3+1 by omega]; exact e1
   · rw [hq,show o+j=o+j / 3 * 3+2 by omega]; exact e2
set_option maxRecDepth 100000 in
theorem open_ins {H:Type} {enc:TypeId × Value→H} {W:World} {r:Reach} {base b0:Nat} {spare:Nat→Bool} {held:Bool} {v:Value} {d:DataW H} {p:List MemPlace}
 (hv:Value.okWide Tryz.prog W r b0 24 v) (h:DataW.Trod enc Tryz.prog W base spare held 24 v d p):∃ (m:List UInt8) (va:Value) (L:List Op3),v=insV m va∧Row W va L.length (opc L)∧m.length≤maxLen:=by
 obtain ⟨v0,v1,y0,y1,n,rfl,_,_,g0,g1⟩:=Go.Joins.open_agg2 Tryz.underlying24 (by kernel_rfl) (by kernel_rfl) hv h
 obtain ⟨z,k0,_,hz⟩:=DataW.trod_string Tryz.underlying9 g0
 obtain ⟨L,hr⟩:=open_opsF g1
 simp at k0
 subst k0
 refine ⟨z.data.toList,v1,L,?_,hr,?_⟩
 · unfold insV
   cases z; simp
 · rw [Array.length_toList]; exact hz
end Go.Proofs.YtkldoojonnkfgaaGreatDoor
