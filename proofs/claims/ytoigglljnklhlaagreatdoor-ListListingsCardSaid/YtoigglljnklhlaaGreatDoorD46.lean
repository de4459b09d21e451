/- Joined. -/
import Derived.Test.YtoigglljnklhlaaGreatDoorD44
import Derived.Lib.SmallJoins
set_option maxHeartbeats 8000000
set_option maxRecDepth 100000
namespace Go.Proofs.YtoigglljnklhlaaGreatDoor
open Go.RowKit Go.Sort
open Go.Proofs.Tryz
def cS:List Cl→List (Int × List UInt8)→List Cl
 | C,[]=>C
 | C,r::l=>cS (fZ C r.1 r.2) l
theorem qM:∀ (C:List Cl) (l:List (Int × List UInt8)) (r:Int × List UInt8),cS C (l++[r])=fZ (cS C l) r.1 r.2
 | C,[],r=>rfl
 | C,x::l,r=>by simp[cS,qM]
theorem nL:∀ (l:List (Int × List UInt8)) (C:List Cl),Asc C→Asc (cS C l)
 | [],_C,h=>h
 | _r::l,_C,h=>nL l _ (En h _ _)
theorem nK:∀ (l:List (Int × List UInt8)) (C:List Cl),(cS C l).length≤C.length+(l.map fun r=>r.2.length).sum
 | [],C=>by simp[cS]
 | r::l,C=>by
   have h1:=nK l (fZ C r.1 r.2);have h2:=Ml C r.1 r.2;simp only[cS,List.map_cons,List.sum_cons];omega
theorem Ez:∀ l:List (Int × List UInt8),lW l≤3000→(∀ r∈l,r.2.length≤3000)∧(l.map fun r=>r.2.length).sum≤3000:=by
 have key:∀ l:List (Int × List UInt8),lW l≤3000→(l.map fun r=>r.2.length).sum=lW l∧∀ r∈l,r.2.length≤3000:=by
  intro l;induction l with
  | nil=>intro _;exact⟨rfl,by simp⟩
  | cons r l ih =>
    intro h;simp only[lW,List.map_cons,List.sum_cons] at h;obtain⟨h1,h2⟩:=ih (by simp only[lW];omega);simp only[lW] at h1;refine⟨by simp only[lW,List.map_cons,List.sum_cons,h1];omega,fun q hq=>?_⟩
    rcases List.mem_cons.1 hq with rfl|hq
    · omega
    · exact h2 q hq
 intro l h;obtain⟨h1,h2⟩:=key l h;exact⟨h2,om⟩
def Qz (l:List (Int × List UInt8)) (w:World) (e:Ending) (w':World):Prop :=
 ∃ b v,e=.returned (.tuple #[.pointer (some ⟨b,0,none⟩),v])∧w.heap.size≤b∧ImgAt b (cS [] l) w'∧w'.ownsRow w.heap.size 63 2 v (cS [] l).length (clc (cS [] l))∧Below w.heap.size w w'
theorem Ji (rs:List RgX) (v:Value) (w:World) (h:RgAt w v rs) (hT:TabB w) (hl:rs.length≤maxLen) :
 Calls prog 8 #[v] w fun e w'=>(tW (rs.map Prod.fst)=true→Qz (rs.map Prod.fst) w e w')∧(tW (rs.map Prod.fst)=false→e=.returned (.tuple #[.pointer none,.slice none 0 0])∧Below w.heap.size w w'):=by
 have HFW:=Hh (Fa rs v w h hl);obtain⟨a,c,rfl,hcap,hh⟩:=h.get;have HH:=Hh hh;have HA:=Hh h.has;have HT:=Hh hT;cases hf:tW (rs.map Prod.fst)
 · rw[hf] at HFW;clear h hh hT hf;go_enter func8,ntmps8
   go_wp2_with fail
   (with_reducible refine HFW.out.mono ?_);rintro e w1 ⟨rfl,rfl⟩;go_wp2_with fail
   go_ret2;exact⟨(fun h=>by cases h),fun _=>⟨rfl,Below.refl _ _⟩⟩
 · have hfc:=hf;unfold tW at hfc;rw[Bool.and_eq_true,decide_eq_true_eq,decide_eq_true_eq,List.length_map] at hfc;obtain⟨hr1,hr2⟩:=Ez _ hfc.2;have hr60:=hfc.1;rw[hf] at HFW;have HR1:=Hh hr1;have HR2:=Hh hr2;clear h hh hT hf hfc hr1 hr2;go_enter func8,ntmps8
   go_wp2_with fail
   (with_reducible refine HFW.out.mono ?_);rintro e w1 ⟨rfl,rfl⟩;go_wp2_with fail
   (with_reducible refine (Et _).mono ?_);rintro e w2 ⟨rfl,him,hb2⟩;have HB2:=Hh hb2;have HIM:=Hh him;clear hb2 him;go_wp2_with fail
   go_loopw [5,14] (fun o i wr=>∃ j:Nat,j≤rs.length∧i=.int .i64 j∧Hid (ImgAt w.heap.size (cS [] ((rs.map Prod.fst).take j)) wr)∧Hid (wr.ownsRow (w.heap.size+1) 63 2 o (cS [] ((rs.map Prod.fst).take j)).length (clc (cS [] ((rs.map Prod.fst).take j))))∧Hid (cS [] ((rs.map Prod.fst).take j)=[]→o=.slice none 0 0)∧Hid (Below w.heap.size w wr)) (fun _ i _=>rs.length - (intOf i).toNat)
   case atStart=>exact⟨0,Nat.zero_le _,rfl,HIM,Hh (World.ownsRow_nil _ _ _ _),Hh (fun _=>rfl),HB2⟩
   case round =>
    obtain⟨j,hj,rfl,HI,HO,HN,HB⟩:=hrel;obtain⟨ao,co,rfl⟩:=aI HO.out;have hbl:=nK ((rs.map Prod.fst).take j) [];have hsl:(((rs.map Prod.fst).take j).map fun r=>r.2.length).sum≤3000:=by
     refine Nat.le_trans ?_ HR2.out
     conv=>rhs;rw[←List.take_append_drop j (rs.map Prod.fst)]
     rw[List.map_append,List.sum_append];omega
    rw[List.length_nil,Nat.zero_add] at hbl;have hcl:(cS [] ((rs.map Prod.fst).take j)).length≤3000:=Nat.le_trans hbl hsl;have hasc:=nL ((rs.map Prod.fst).take j) [] ⟨List.Pairwise.nil,by simp⟩
    by_cases hlt:j<rs.length
    · obtain⟨x,hx⟩:∃ x,rs[j]? = some x:=⟨_,List.getElem?_eq_getElem hlt⟩;obtain⟨g,o,rfl,hg,hcs⟩:=HH.out (by rintro rfl;exact absurd hlt (Nat.not_lt_zero _))
      obtain⟨k0,k1⟩:=hcs j x hx;have hxr:=HA.out x (List.mem_of_getElem? hx);have hxm:x.1∈rs.map Prod.fst:=List.mem_map_of_mem (List.mem_of_getElem? hx);have hxl:=HR1.out _ hxm;have hst:cS [] ((rs.map Prod.fst).take (j+1))=fZ (cS [] ((rs.map Prod.fst).take j)) x.1.1 x.1.2:=by
       rw[List.take_add_one,List.getElem?_map,hx];exact qM _ _ _
      obtain⟨⟨ad,bs⟩,vb⟩:=x;dsimp only at k0 k1 hxr hxl hst;obtain⟨ab,cb,rfl,hcb,_⟩:=id hxr;have HST:=Hh hst;have m0:=(HB.out.cell (p:=⟨g,o+j*2,none⟩) hg).trans k0;have m1:=(HB.out.cell (p:=⟨g,o+j*2+1,none⟩) hg).trans k1;have hgw:g<wr.heap.size:=Nat.lt_of_lt_of_le hg HB.out.size;have hi0:(0:Int)≤(j:Int):=om
      have hi1:(j:Int)<(rs.length:Int):=om
      have hsz:w.heap.size<wr.heap.size:=HI.out.raw.lt;have HXR:=Hh hxr;have HASC:=Hh hasc;have HCL:=Hh hcl;have HXL:=Hh hxl;generalize cS [] ((rs.map Prod.fst).take j)=C at *;clear hcs hx hxm hst hxr hbl hsl hasc hcl k0 k1 hxl;go_wp2_with fail
      have hal:Below wr.heap.size wr (wr.alloc (.cells #[.int .i64 ad,.slice ab bs.length cb] 35)):=br.alloc lr _;have hbx:=aF wr (.cells #[.int .i64 ad,.slice ab bs.length cb] 35);have hbw:=HB.out.trans (hal.mono HB.out.size);(with_reducible refine (Eo w.heap.size C ad bs (.slice ab bs.length cb) _ (HI.out.below hal hsz) (HT.out.below hbw) (HXR.out.below hbw) (by have:=HCL.out;omega) (by have:=HXL.out;omega)).mono ?_);rintro e w3 ⟨kk,rfl,him3,hk3⟩;have hbx3:=(hk3.block _ (aA hbx) om).trans hbx;have hb3:=bS hbw hbw.size hk3 lr;have ho3:=Kb.owns (bK HO.out hal) hk3 (fun e=>by have:=(HO.out.lt _ e).1;omega)
      have HIM3:=Hh him3;have HB3:=Hh hb3;have HO3:=Hh ho3;obtain⟨z0,z1,_,_⟩:=aL hbx3;have hlx:=aA hbx3;clear hal hbx hbw him3 hk3 hbx3 hb3 ho3 m0 m1;go_wp2_with fail
      (with_reducible refine (Gk C HASC.out (.slice ao C.length co) ad bs (.slice ab bs.length cb) (w.heap.size+1) _ HO3.out HN.out om (HXR.out.below HB3.out) (by have:=HCL.out;omega) (by have:=HXL.out;omega)).mono ?_);rintro e w4 ⟨v4,kq,rfl,ho4,hn4,hb4⟩;have HIM4:=Hh (HIM3.out.below hb4 HIM3.out.raw.lt);have HB4:=Hh (HB3.out.trans (hb4.mono HB3.out.size));have HO4:=Hh ho4;have HN4:=Hh hn4;clear hb4 ho4 hn4 z0 z1;go_wp2_with fail
      go_roundw
      case rel=>exact⟨j+1,om,by go_num,Hh (by rw[HST.out];exact HIM4.out),Hh (by rw[HST.out];exact HO4.out),Hh (by rw[HST.out];exact HN4.out),HB4⟩
      case measure=>simp[intOf];omega
    · obtain rfl:j=rs.length:=om
      have htk:(rs.map Prod.fst).take rs.length=rs.map Prod.fst:=List.take_of_length_le sm;rw[htk] at HI HO HN ⊢;clear hbl hsl hcl hasc htk;go_wp2_with fail
      go_ret2;exact⟨fun _=>⟨w.heap.size,_,rfl,Nat.le_refl _,HI.out,aP HO.out (Nat.le_succ _),HB.out⟩,(fun h=>by cases h)⟩
theorem gF {α:Type} (f:Nat→α) (n:Nat):((List.range n).map f).length=n:=by simp
theorem wI {H α:Type} [Inhabited α] (f:α→List Value) (Q:α→Prop) (sz:Nat) (hf:∀ x,(f x).length=sz) (hs:0<sz) {T E:TypeId} (hT:prog.underlying T=some (.slice E)) (hsz:prog.cellsOf E=sz)
 {enc:TypeId × Value→H} {W w:World} {r:Reach} {base b0:Nat} {spare:Nat→Bool} {held:Bool} {v:Value} {d:DataW H} {p:List MemPlace}
 (hel:∀ (cs:List Value) (n:Nat) (y:DataW H × List MemPlace),cs.length=sz→DataW.trod enc prog W base spare held n E cs=some y→∃ x,cs=f x∧Q x)
 (hv:Value.okWide prog w r b0 T v) (h:DataW.Trod enc prog W base spare held T v d p):∃ L:List α,Row W v L.length (L.flatMap f)∧L.length≤maxLen∧∀ x∈L,Q x:=by
 obtain⟨a,len,cap,rfl⟩:=Go.WideShapes.okWide_slice hT hv;obtain⟨fuel,hfu⟩:=h;rcases Deep.open_slice hT hfu with⟨he,_⟩|⟨a',len',cap',m,n,D,Pl,he,hb,hl,hm,hmm,hx,hel2⟩
 · simp[Value.cells] at he
   obtain⟨rfl,rfl,rfl⟩:=he;exact⟨[],Row.nil _,by unfold maxLen;simp,fun x hx=>by cases hx⟩
 · simp[Value.cells] at he
   obtain⟨rfl,rfl,rfl⟩:=he;have hlm:len≤m:=by rw[hmm];split<;>omega
   obtain⟨g,hfi⟩:=Deep.choose_lt (α:=α) (n:=len) (p:=fun i x=>Q x∧∀ j,j<sz→W.cell? ((a'.add (i*sz)).add j)=(f x)[j]?) (fun i hi=>by
    obtain⟨cs',hc1,hc2⟩:=hel2 i om;rw[hsz] at hc1;obtain⟨_,hlen,hcell⟩:=World.cells?_some hc1;obtain⟨x,rfl,hq⟩:=hel cs' _ _ hlen hc2;refine⟨x,hq,fun j hj=>?_⟩;simpa using hcell j om)
   refine⟨(List.range len).map g,⟨some a',cap,by rw[gF],by rw[gF];exact hl,fun hne=>?_⟩,by rw[gF];omega,fun x hx=>?_⟩
   rotate_left
   · obtain⟨i,hi,rfl⟩:=List.mem_map.1 hx;exact (hfi i (by simpa using hi)).1
   obtain⟨b,o,spot⟩:=a';have hpos:0<len:=by
    rcases Nat.eq_zero_or_pos len with h0|h0
    · subst h0;exact absurd rfl hne
    · exact h0
   have h0:=(hfi 0 hpos).2 0 hs;rw[List.getElem?_eq_getElem (by rw[hf];exact hs)] at h0;have hspot:spot=none:=by simpa[Addr.add] using World.cell?_spot h0
   subst hspot;have hlt:b<W.heap.size:=by
    simp[World.cell?] at h0
    rcases hh:W.heap[b]? with _|x
    · simp[Addr.add,hh] at h0
    · exact (Array.getElem?_eq_some_iff.1 hh).1
   refine⟨b,o,rfl,hlt,fun j hj=>?_⟩;rw[iN f sz hf,gF] at hj;have hd:=Nat.div_add_mod j sz;have hmod:=Nat.mod_lt j hs;have hj3:j/sz<len:=Nat.div_lt_of_lt_mul (by rw[Nat.mul_comm];exact hj);have h1:=(hfi (j/sz) hj3).2 (j%sz) hmod;have h2:=oJ f sz hf ((List.range len).map g) (j/sz) (g (j/sz)) (by simp[hj3]) (j%sz) hmod;rw[Nat.mul_comm] at hd;rw[hd] at h2;rw[h2,←h1,bD,bD,Nat.add_assoc,hd]
end Go.Proofs.YtoigglljnklhlaaGreatDoor
namespace Go.Proofs.YtoigglljnklhlaaGreatDoor
open Go.RowKit Go.Sort
open Go.ChangeShapes Go.WideShapes
open Go.Proofs.Tryz
instance:Inhabited RgX:=⟨((0,[]),.slice none 0 0)⟩
theorem cellsByte:prog.cellsOf 5=1:=by kernel_rfl
theorem yK {H:Type} {enc:TypeId × Value→H} {W:World} {base fuel:Nat} {spare:Nat→Bool} {held:Bool} {v:Value} {y:DataW H × List MemPlace}
 (hf:DataW.trod enc prog W base spare held fuel 33 [v]=some y):∃ L,Row W v L.length (aT L)∧L.length≤maxLen:=by
 rcases open_ints underlying33 underlying5 cellsByte hf with⟨hcs,_⟩|⟨a,len,cap,zs,hcs,_,hl,hm,hz,_,hcell,hwz⟩
 · simp at hcs
   subst hcs;exact⟨[],Row.nil _,Nat.zero_le _⟩
 · simp at hcs
   subst hcs;have hle:len≤zs.length:=by rw[hz];split<;>omega
   have hlen:((zs.take len).map fun n=>UInt8.ofNat n.toNat).length=len:=by simp;omega
   refine⟨(zs.take len).map fun n=>UInt8.ofNat n.toNat,⟨some a,cap,by rw[hlen],by rw[hlen];exact hl,fun hne=>?_⟩,by rw[hlen];omega⟩
   obtain⟨b,o,spot⟩:=a;have hpos:0<len:=by
    rcases Nat.eq_zero_or_pos len with h0|h0
    · subst h0;exact absurd rfl hne
    · exact h0
   have h0:=hcell 0 om;have hspot:spot=none:=by simpa[Addr.add] using World.cell?_spot h0
   subst hspot;have hlt:b<W.heap.size:=by
    simp[World.cell?] at h0
    rcases hh:W.heap[b]? with _|x
    · simp[Addr.add,hh] at h0
    · exact (Array.getElem?_eq_some_iff.1 hh).1
   refine⟨b,o,rfl,hlt,fun j hj=>?_⟩;rw[fS,hlen] at hj;have hcj:=hcell j om;rw[bD] at hcj;rw[hcj];have hb:=range_u8 hwz j;have e:zs[j]?.getD 0=zs[j]'om:=by simp[List.getElem?_eq_getElem (show j<zs.length by omega)]
   rw[e] at hb;rw[List.getD_eq_getElem?_getD,e];have hg:((zs.take len).map fun n=>UInt8.ofNat n.toNat)[j]? = some (UInt8.ofNat (zs[j]'om).toNat):=by
    rw[List.getElem?_map,List.getElem?_take_of_lt hj,List.getElem?_eq_getElem om];rfl
   rw[oS hg];congr 2
   simp only[UInt8.toNat_ofNat'];omega
theorem Gs {H:Type} {enc:TypeId × Value→H} {W w:World} {r:Reach} {base b0:Nat} {spare:Nat→Bool} {held:Bool} {v:Value} {d:DataW H} {p:List MemPlace}
 (hv:Value.okWide prog w r b0 22 v) (h:DataW.Trod enc prog W base spare held 22 v d p):∃ L:List RgX,RgAt W v L∧L.length≤maxLen:=by
 have hsi:prog.cellsOf 3=1:=by kernel_rfl
 have hss:prog.cellsOf 33=1:=by kernel_rfl
 obtain⟨L,h1,h2,h3⟩:=wI Xd (fun x=>Row W x.2 x.1.2.length (aT x.1.2)) 2 (fun _=>rfl) dc underlying22 kr (fun cs n y hl hy=>by
  obtain⟨xs,n,_,_,_,hlen,hg⟩:=DataW.trod_struct underlying35 hy;match cs,hl with
  | [u0,u1],_ =>
    match xs,hlen with
    | [y0,y1],_ =>
      have g0:_=some y0:=hg 0 _ rfl;have g1:_=some y1:=hg 1 _ rfl;obtain⟨z0,k0,_,_⟩:=DataW.trod_int underlying3 g0;simp[hsi] at k0
      subst k0;obtain⟨bs,hr,_⟩:=yK (v:=u1) (by simpa[hsi,hss] using g1);exact⟨((z0,bs),u1),rfl,hr⟩) hv h
 exact⟨L,⟨h1,h3⟩,h2⟩
end Go.Proofs.YtoigglljnklhlaaGreatDoor
