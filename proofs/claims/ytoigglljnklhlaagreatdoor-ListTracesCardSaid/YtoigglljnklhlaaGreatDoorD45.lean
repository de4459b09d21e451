/- Joined. -/
import Derived.Test.YtoigglljnklhlaaGreatDoorD44
import Derived.Lib.SmallJoins
set_option maxHeartbeats 8000000
set_option maxRecDepth 100000
namespace Go.Proofs.YtoigglljnklhlaaGreatDoor
section
open Go.RowKit Go.Sort
open Go.Proofs.Tryz
theorem gF {α:Type} (f:Nat→α) (n:Nat):((List.range n).map f).length=n:=by simp
theorem wI {H α:Type} [Inhabited α] (f:α→List Value) (Q:α→Prop) (sz:Nat) (hf:∀ x,(f x).length=sz) (hs:0<sz) {T E:TypeId} (hT:prog.underlying T=some (.slice E)) (hsz:prog.cellsOf E=sz)
 {enc:TypeId × Value→H} {W w:World} {r:Reach} {base b0:Nat} {spare:Nat→Bool} {held:Bool} {v:Value} {d:DataW H} {p:List MemPlace}
 (hel:∀ (cs:List Value) (n:Nat) (y:DataW H × List MemPlace),cs.length=sz→DataW.trod enc prog W base spare held n E cs=some y→∃ x,cs=f x∧Q x)
 (hv:Value.okWide prog w r b0 T v) (h:DataW.Trod enc prog W base spare held T v d p):∃ L:List α,Row W v L.length (L.flatMap f)∧L.length≤maxLen∧∀ x∈L,Q x:=by
 obtain⟨a,len,cap,rfl⟩:=Go.WideShapes.okWide_slice hT hv;obtain⟨fuel,hfu⟩:=h;rcases Deep.open_slice hT hfu with⟨he,_⟩|⟨a',len',cap',m,n,D,Pl,he,hb,hl,hm,hmm,hx,hel2⟩
 · simp[Value.cells] at he
   obtain⟨rfl,rfl,rfl⟩:=he;exact⟨[],Row.nil _,by unfold maxLen;simp,fun x hx=>by cases hx⟩
 · simp[Value.cells] at he
   obtain⟨rfl,rfl,rfl⟩:=he;have hlm:len≤m:=by rw[hmm];split<;>omega
   obtain⟨g,hfi⟩:=Deep.choose_lt (α:=α) (n:=len) (p:=fun i x=>Q x∧∀ j,j<sz→W.cell? ((a'.add (i*sz)).add j)=(f x)[j]?) (fun i hi=>by
    obtain⟨cs',hc1,hc2⟩:=hel2 i om;rw[hsz] at hc1;obtain⟨_,hlen,hcell⟩:=World.cells?_some hc1;obtain⟨x,rfl,hq⟩:=hel cs' _ _ hlen hc2;refine⟨x,hq,fun j hj=>?_⟩;simpa using hcell j om)
   refine⟨(List.range len).map g,⟨some a',cap,by rw[gF],by rw[gF];exact hl,fun hne=>?_⟩,by rw[gF];omega,fun x hx=>?_⟩
   rotate_left
   · obtain⟨i,hi,rfl⟩:=Yo.1 hx;exact (hfi i (by simpa using hi)).1
   obtain⟨b,o,spot⟩:=a';have hpos:0<len:=by
    rcases Nat.eq_zero_or_pos len with h0|h0
    · subst h0;exact absurd rfl hne
    · exact h0
   have h0:=(hfi 0 hpos).2 0 hs;rw[Qb (by rw[hf];exact hs)] at h0;have hspot:spot=none:=by simpa[Addr.add] using World.cell?_spot h0
   subst hspot;have hlt:b<W:=by
    simp[World.cell?] at h0
    rcases hh:W.heap[b]? with _|x
    · simp[Addr.add,hh] at h0
    · exact (Ql.1 hh).1
   refine⟨b,o,rfl,hlt,fun j hj=>?_⟩;rw[iN f sz hf,gF] at hj;have hd:=Nat.div_add_mod j sz;have hmod:=Nat.mod_lt j hs;have hj3:j/sz<len:=Nat.div_lt_of_lt_mul (by rw[Nat.mul_comm];exact hj);have h1:=(hfi (j/sz) hj3).2 (j%sz) hmod;have h2:=oJ f sz hf ((List.range len).map g) (j/sz) (g (j/sz)) (by simp[hj3]) (j%sz) hmod;rw[Nat.mul_comm] at hd;rw[hd] at h2;rw[h2,←h1,bD,bD,Yb,hd]
end
section
open Go.RowKit Go.Sort
open Go.ChangeShapes Go.WideShapes
open Go.Proofs.Tryz
instance:Inhabited RgX:=⟨((0,[]),.slice none 0 0)⟩
theorem cellsByte:prog.cellsOf 5=1:=by kernel_rfl
theorem yK {H:Type} {enc:TypeId × Value→H} {W:World} {base fuel:Nat} {spare:Nat→Bool} {held:Bool} {v:Value} {y:DataW H × List MemPlace}
 (hf:DataW.trod enc prog W base spare held fuel 33 [v]=some y):∃ L,Row W v L.length (aT L)∧L.length≤maxLen:=by
 rcases open_ints underlying33 underlying5 cellsByte hf with⟨hcs,_⟩|⟨a,len,cap,zs,hcs,_,hl,hm,hz,_,hcell,hwz⟩
 · simp at hcs
   subst hcs;exact⟨[],Row.nil _,Qi _⟩
 · simp at hcs
   subst hcs;have hle:len≤zs.length:=by rw[hz];split<;>omega
   have hlen:((zs.take len).map fun n=>UInt8.ofNat n.toNat).length=len:=by simp;omega
   refine⟨(zs.take len).map fun n=>UInt8.ofNat n.toNat,⟨some a,cap,by rw[hlen],by rw[hlen];exact hl,fun hne=>?_⟩,by rw[hlen];omega⟩
   obtain⟨b,o,spot⟩:=a;have hpos:0<len:=by
    rcases Nat.eq_zero_or_pos len with h0|h0
    · subst h0;exact absurd rfl hne
    · exact h0
   have h0:=hcell 0 om;have hspot:spot=none:=by simpa[Addr.add] using World.cell?_spot h0
   subst hspot;have hlt:b<W:=by
    simp[World.cell?] at h0
    rcases hh:W.heap[b]? with _|x
    · simp[Addr.add,hh] at h0
    · exact (Ql.1 hh).1
   refine⟨b,o,rfl,hlt,fun j hj=>?_⟩;rw[fS,hlen] at hj;have hcj:=hcell j om;rw[bD] at hcj;rw[hcj];have hb:=range_u8 hwz j;have e:zs[j]?.getD 0=zs[j]'om:=by simp[Qb (show j<zs.length by omega)]
   rw[e] at hb;rw[Xh,e];have hg:((zs.take len).map fun n=>UInt8.ofNat n.toNat)[j]? = some (UInt8.ofNat (zs[j]'om).toNat):=by
    rw[Ya,Yt hj,Qb om];rfl
   rw[oS hg];congr 2
   simp only[UInt8.toNat_ofNat'];omega
theorem Gs {H:Type} {enc:TypeId × Value→H} {W w:World} {r:Reach} {base b0:Nat} {spare:Nat→Bool} {held:Bool} {v:Value} {d:DataW H} {p:List MemPlace}
 (hv:Value.okWide prog w r b0 22 v) (h:DataW.Trod enc prog W base spare held 22 v d p):∃ L:List RgX,RgAt W v L∧L.length≤maxLen:=by
 have hsi:prog.cellsOf 3=1:=by kernel_rfl
 have hss:prog.cellsOf 33=1:=by kernel_rfl
 obtain⟨L,h1,h2,h3⟩:=wI aPA (fun x=>Row W x.2 x.1.2.length (aT x.1.2)) 2 (fun _=>rfl) dc underlying22 kr (fun cs n y hl hy=>by
  obtain⟨xs,n,_,_,_,hlen,hg⟩:=DataW.trod_struct underlying35 hy;match cs,hl with
  | [u0,u1],_ =>
    match xs,hlen with
    | [y0,y1],_ =>
      have g0:_=some y0:=hg 0 _ rfl;have g1:_=some y1:=hg 1 _ rfl;obtain⟨z0,k0,_,_⟩:=DataW.trod_int underlying3 g0;simp[hsi] at k0
      subst k0;obtain⟨bs,hr,_⟩:=yK (v:=u1) (by simpa[hsi,hss] using g1);exact⟨((z0,bs),u1),rfl,hr⟩) hv h
 exact⟨L,⟨h1,h3⟩,h2⟩
theorem aLS {H:Type} {enc:TypeId × Value→H} {W w:World} {r:Reach} {base b0:Nat} {spare:Nat→Bool} {held:Bool} {v:Value} {d:DataW H} {p:List MemPlace}
 (hv:Value.okWide prog w r b0 44 v) (h:DataW.Trod enc prog W base spare held 44 v d p):∃ L:List Int,(Row W v L.length (aBQ L)∧eR W v L.length (aBQ L))∧L.length≤maxLen:=by
 obtain⟨a,len,cap,rfl⟩:=Go.WideShapes.okWide_slice underlying44 hv;obtain⟨m,hf⟩:=h;rcases open_ints underlying44 underlying3 kr hf with⟨hcs,_⟩|⟨a,len,cap,zs,hcs,_,hl,hm,hz,_,hcell,_⟩
 · cases hcs
   exact⟨[],⟨Row.nil _,.inl ⟨rfl,rfl⟩⟩,Qi _⟩
 · cases hcs
   have hle:len≤zs.length:=by rw[hz];split<;>omega
   have hlen:(zs.take len).length=len:=by rw[Qt];omega
   have hget:∀ j u,(aBQ (zs.take len))[j]? = some u→W.cell? (a.add j)=some u:=fun j u hu=>by
    have hj:=(Qd.1 hu).1;unfold aBQ at hj hu;rw[Qs,hlen] at hj;rw[hcell j om,←hu,Ya,Yt hj,Xh,Qb om];rfl
   refine⟨zs.take len,⟨⟨some a,cap,by rw[hlen],by rw[hlen];exact hl,fun hne=>?_⟩,.inr ⟨a,cap,by rw[hlen],hget⟩⟩,by rw[hlen];omega⟩
   obtain⟨b,o,spot⟩:=a;have hpos:0<len:=by
    rcases Nat.eq_zero_or_pos len with h0|h0
    · subst h0;exact absurd rfl hne
    · exact h0
   have h0:=hcell 0 om;have hspot:spot=none:=by simpa[Addr.add] using World.cell?_spot h0
   subst hspot;have hlt:b<W:=by
    simp[World.cell?] at h0
    rcases hh:W.heap[b]? with _|x
    · simp[Addr.add,hh] at h0
    · exact (Ql.1 hh).1
   refine⟨b,o,rfl,hlt,fun j hj=>?_⟩
   have:=hget j _ (Qb hj)
   rw[bD] at this;rw[this,Qb hj]
end
end Go.Proofs.YtoigglljnklhlaaGreatDoor
