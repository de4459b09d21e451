/- Joined. -/
import Derived.Test.YtoigglljnklhlaaGreatDoorD03
import Derived.Test.YtoigglljnklhlaaGreatDoorDX1
import Derived.IntWalk
import Derived.Laws.RangeString
import Derived.RangeFuncRecord
set_option maxHeartbeats 8000000
set_option maxRecDepth 100000
namespace Go.Proofs.YtoigglljnklhlaaGreatDoor
open Go.RowKit Go.Sort
open Go.Proofs.Tryz
theorem Row.byt {w:World} {v:Value} {l:List UInt8} (h:Row w v l.length (aT l)):∃ a c,v=.slice a l.length c∧l.length≤c∧(l≠[]→∃ g o,a=some ⟨g,o,none⟩∧g<w.heap.size∧∀ (j:Nat) (b:UInt8),l[j]? = some b→w.cell? ⟨g,o+j,none⟩=some (.int .u8 (b.toNat:Int))):=by
 obtain⟨a,c,hv,hc,h⟩:=h;refine⟨a,c,hv,hc,fun hl=>?_⟩;obtain⟨g,o,ha,hg,hcs⟩:=h (by simpa[aT] using hl);exact⟨g,o,ha,hg,fun j b hb=>(hcs j (by rw[fS];exact (Qd.1 hb).1)).trans (oS hb)⟩
theorem sX (v1 v2:Value) (a b:List UInt8) (w:World) (h1:Row w v1 a.length (aT a)) (h2:Row w v2 b.length (aT b)) (hl:a.length≤1000000) (_hl2:b.length≤1000000) :
 Calls prog 224 #[v1,v2] w fun e w'=>e=.returned (.bool (decide (a=b)))∧Below w w w':=by
 obtain⟨a1,c1,rfl,hc1,h1⟩:=h1.byt;obtain⟨a2,c2,rfl,hc2,h2⟩:=h2.byt;obtain⟨R,hR⟩:∃ R,decide (a=b)=R:=⟨_,rfl⟩;rw[hR];have HR:=Hh hR;clear hR;by_cases hlen:a.length=b.length
 · have hle:((a.length:Int) != (b.length:Int))=false:=by simp;omega
   have H1:=Hh h1;have H2:=Hh h2;have Hlen:=Hh hlen;clear h1 h2 hlen;go_enter func224,ntmps224
   go_wp2_with fail
   go_loopw [5,13] (fun _ i wr=>∃ j:Nat,j≤a.length∧i=.int .i64 j∧Hid (Below w w wr)∧Hid (a.take j=b.take j)) (fun _ i _=>a.length - (intOf i).toNat)
   case atStart=>exact⟨0,Qi _,rfl,Hh br,Hh rfl⟩
   case round =>
    obtain⟨j,hj,rfl,HB,HT⟩:=hrel;by_cases hlt:j<a.length
    · obtain⟨x,hx⟩:∃ x,a[j]? = some x:=⟨_,Qb hlt⟩;obtain⟨y,hy⟩:∃ y,b[j]? = some y:=⟨_,Qb (by have:=Hlen.out;omega)⟩;obtain⟨g1,o1,rfl,hg1,h1⟩:=H1.out (by intro e;rw[e] at hlt;exact absurd hlt (Qw _))
      obtain⟨g2,o2,rfl,hg2,h2⟩:=H2.out (by intro e;have:=Hlen.out;rw[e] at this;have h0:([]:List UInt8).length=0:=rfl;omega)
      have cx:=h1 j _ hx;have cy:=h2 j _ hy;rw[←HB.out.cell (p:=⟨_,_,none⟩) hg1] at cx;rw[←HB.out.cell (p:=⟨_,_,none⟩) hg2] at cy;have Hx:=Hh hx;have Hy:=Hh hy;clear hx hy h1 h2;have hi0:(0:Int)≤(j:Int):=om
      have hi1:(j:Int)<(a.length:Int):=om
      have hi2:(j:Int)<(b.length:Int):=by have:=Hlen.out;omega
      by_cases e0:x=y
      · subst e0;go_wp2_with fail
        go_region
        all_goals
         go_wp2_with fail
         go_roundw
        case rel=>exact⟨j+1,om,by go_num,Hh HB.out.drew,Hh (by rw[Qo,Qo,HT.out,Hx.out,Hy.out])⟩
        case measure=>simp[intOf];omega
      · have hr:R=false:=by rw[←HR.out];exact Qg (fun e=>e0 (by have h3:=Hx.out;rw[e,Hy.out] at h3;exact (Xi h3).symm))
        subst hr;have hne:((x.toNat:Int) != (y.toNat:Int))=true:=by
         rw[bne_iff_ne];intro e;exact e0 (Yv.1 om)
        clear e0;go_wp2_with fail
        go_region
        all_goals
         go_wp2_with fail
         go_ret;exact⟨rfl,HB.out.drew⟩
    · obtain rfl:j=a.length:=om
      have hr:R=true:=by
       rw[←HR.out];refine Qh ?_
       have:=HT.out
       rwa [Qy,Hlen.out,Qy] at this
      subst hr;have hi1:¬ (a.length:Int)<(a.length:Int):=om
      go_wp2_with fail
      go_ret;exact⟨rfl,HB.out⟩
 · have hle:((a.length:Int) != (b.length:Int))=true:=by rw[bne_iff_ne];omega
   have hr:R=false:=by rw[←HR.out];exact Qg (fun e=>hlen (by rw[e]))
   subst hr;clear h1 h2 hlen;go_enter func224,ntmps224
   go_wp2_with fail
   go_ret;exact⟨rfl,Below.refl _ _⟩
abbrev Ni:List PanicEntry:=[{ v:=.iface 215 (.agg #[]),recovered:=false }]
theorem aPh {B:Nat} {a w:World} (h:Below B a w) (n:Nat):Below B a (w.drewN n):=⟨h.os,h.tape,h.output,h.size,h.block⟩
theorem Vv {b:Nat} {a w:World} (h:Kb b a w) (n:Nat):Kb b a (w.drewN n):=⟨h.os,h.tape,h.output,h.size,h.block⟩
abbrev fI (vb:Value) (at':Int) (vp:Value) (e:Nat→Value) (d n:Int):Obj:=.cells #[vb,at',vp,e 0,e 1,e 2,e 3,e 4,e 5,d,n] 213 (0,0)
theorem mB (D:Nat) (b:List UInt8) (vb vp:Value) (e:Nat→Value) (at':Nat) (d n:Int) (w:World) (hD:w.heap[D]? = some (fI vb at' vp e d n)) (hv:Row w vb b.length (aT b)) (hat:b.length≤at') :
 Calls prog 195 #[.pointer D] w fun e w'=>e=.panicked Ni∧Below w w w':=by
 obtain⟨a,c,rfl,_,_⟩:=hv;have c0:=aC hD 0;have c1:=aC hD 1;have hlt:=aA hD;have hge:(b.length:Int)≤(at':Int):=om
 clear hD;go_enter func195,ntmps195
 go_wp2_with fail
 go_quiet (fail)
 go_wp2_with fail
 refine⟨rfl,?_⟩;exact⟨rfl,aPh br _⟩
theorem fW (D:Nat) (b:List UInt8) (vb vp:Value) (e:Nat→Value) (at':Nat) (d n:Int) (x:UInt8) (w:World) (hD:w.heap[D]? = some (fI vb at' vp e d n)) (hv:Row w vb b.length (aT b)) (hx:b[at']? = some x) (hl:b.length≤1000000) (hne:vb.ownBlock≠some D) :
 Calls prog 195 #[.pointer D] w fun r w'=>r=.returned (.int .u8 x.toNat)∧w'.heap[D]? = some (fI vb ((at'+1:Nat):Int) vp e d n)∧Kb D w w':=by
 have hlt9:=(Qd.1 hx).1;obtain⟨a,c,rfl,_,h⟩:=hv.byt;obtain⟨g,o,rfl,hg,hc⟩:=h (by intro e;rw[e] at hlt9;exact absurd hlt9 (Qw _))
 have cx:=hc at' x hx;have c0:=aC hD 0;have c1:=aC hD 1;have f1:=aH hD 1;have hlt:=aA hD;have hge:¬ (b.length:Int)≤(at':Int):=om
 have hi1:(at':Int)<(b.length:Int):=om
 have hi0:(0:Int)≤(at':Int):=om
 have HD:=Hh hD;have hgd:g≠D:=fun e=>hne (by rw[e];rfl);have hgd2:D≠g:=hgd.symm;have hw1:IntKind.i64.wrap ((at':Int)+1 - 1)=at':=by rw[Int.add_sub_cancel];exact IntWalk.i64_in _ om
 clear hD hx hc hv h hne;go_enter func195,ntmps195
 go_wp2_with fail
 go_quiet (fail)
 go_wp2_with fail
 go_quiet (fail)
 go_wp2_with fail
 go_ret;refine⟨rfl,?_,Vv (Kb.setCell (Vv (Kb.refl _ _) _) 1 _) _⟩;have h1:=aG (i:=1) (v:=.int .i64 ((at':Int)+1)) HD.out;rw[Int.natCast_add];exact h1
theorem Lm:∀ k:Fin 256,IntKind.i8.wrap (k.val:Int)=if k.val≥128 then (k.val:Int) - 256 else k.val:=by decide +kernel
theorem xS (x:UInt8) (w:World):Calls prog 226 #[.int .u8 x.toNat] w fun e w'=>e=.returned (.int .i64 (sgn x))∧w=w':=by
 have hx:=x.toNat_lt;have key:IntKind.i8.wrap (x.toNat:Int)=sgn x:=Lm ⟨x.toNat,hx⟩;have hr:-128≤sgn x∧sgn x≤127:=by unfold sgn;split<;>omega
 obtain⟨y,hy⟩:∃ y,sgn x=y:=⟨_,rfl⟩;rw[hy] at key hr ⊢;obtain⟨hr0,hr1⟩:=hr;clear hy;go_enter func226,ntmps226
 go_wp2_with fail
 go_ret;exact⟨rfl,rfl⟩
theorem qX (D:Nat) (b:List UInt8) (vb vp:Value) (e:Nat→Value) (at':Int) (d n:Int) (k:Nat) (w:World) (hD:w.heap[D]? = some (fI vb at' vp e d n)) (hv:Row w vb b.length (aT b)) (hk0:0<k) (hk:k≤b.length) (hl:b.length≤1000000) :
 Calls prog 152 #[.pointer D,k] w fun r w'=>∃ v,r=.returned v∧w'.ownsRow w 5 1 v k (aT (b.take k))∧Below w w w':=by
 obtain⟨a,c,rfl,hcap,h⟩:=hv.byt;obtain⟨g,o,rfl,hg,hc⟩:=h (by intro e;rw[e] at hk;simp at hk;omega);have c0:=aC hD 0;have HCL:=Hh (Tryz.bytes_Clone_at ⟨g,o,none⟩ k c ((b.take k).map fun x=>(x.toNat:Int)) w (by simp;omega) om (fun i hi=>by
  have hib:i<b.length:=om
  rw[bD,hc i _ (Qb hib)];simp[List.getD,Yt hi,Qb hib]))
 have hk1:(k:Int)≤(b.length:Int):=om
 have hk2:(0:Int)≤(k:Int):=om
 have hk3:(k:Int)≤(c:Int):=om
 clear hD hc hv h;go_enter func152,ntmps152
 go_wp2_with fail
 refine HCL.out.mono ?_;rintro e w1 ⟨v,rfl,ho,_,hb⟩;have HO:=Hh ho;have HB:=Hh hb;clear ho hb;go_wp2_with fail
 go_ret;refine⟨v,rfl,?_,HB.out⟩
 have:=HO.out
 rw[Zk] at this;exact this
theorem xX {P:Program} {W:World} {it pos:Nat} {s:ByteArray} (hW:W.heap[it]? = some (.stringIter s pos)) (h:pos<s.size) (ha:(s[pos]'h).toNat<128) (ty:TypeId) :
 (Instr.next (.pointer it) true ty).run P W=.ok (.tuple #[.bool true,pos,.int .i32 (s[pos]'h).toNat]) (W.putObj it (.stringIter s (pos+1))):=by
 simp only[Instr.next,getObj,setObj,Sem.run_bind,Sem.run,hW,Result.andThen,h,if_true,decode_ascii s pos h ha];simp[goInt,World.putObj]
theorem tQ {P:Program} {W:World} {it pos:Nat} {s:ByteArray} (hW:W.heap[it]? = some (.stringIter s pos)) (h:¬ pos<s.size) (ty:TypeId) :
 (Instr.next (.pointer it) true ty).run P W=.ok (.tuple #[.bool false]) W:=by
 simp[Instr.next,getObj,Sem.run,hW,h]
theorem dY {w W:World} {v:Value} {n D:Nat} {xs:List Value} (h:Row w v n xs) (hk:Kb D w W) (hne:v.ownBlock≠some D):Row W v n xs:=by
 obtain⟨a,c,hv,hc,h⟩:=h;refine⟨a,c,hv,hc,fun hx=>?_⟩;obtain⟨g,o,ha,hg,hcs⟩:=h hx;exact⟨g,o,ha,Qj hg hk.size,fun j hj=>(hk.cell (p:=⟨g,o+j,none⟩) hg (fun e=>hne (by rw[hv,ha];exact congrArg some e))).trans (hcs j hj)⟩
theorem aPM {D it:Nat} {w W:World} {o:Obj} (h:Kb D w W) (hw:w.heap.size≤it):Kb D w (W.putObj it o) :=
 ⟨h.os,h.tape,h.output,by show _≤(W.heap.setIfInBounds it o).size;rw[Array.size_setIfInBounds];exact h.size,fun k hk hb=>(World.putObj_heap_other om).trans (h.block k hk hb)⟩
structure Ao (D:Nat) (vb vp:Value) (e:Nat→Value) (it:Nat) (s:ByteArray) (w:World) (pos at':Nat) (d n:Int) (W:World):Prop where
 dec:W.heap[D]? = some (fI vb at' vp e d n)
 itr:W.heap[it]? = some (.stringIter s pos)
 kb:Kb D w W
def Fn (D:Nat) (b:List UInt8) (vb vp:Value) (e:Nat→Value) (w:World) (r:Option (Int × Int × List UInt8)) (x:Ending) (w':World):Prop :=
 match r with
 | some (d,n,rest)=>x=.returned (.tuple #[])∧w'.heap[D]? = some (fI vb ((b.length - rest.length:Nat):Int) vp e d n)∧rest=b.drop (b.length - rest.length)∧Kb D w w'
 | none=>x=.panicked Ni∧(∃ (at':Nat) (d n:Int),w'.heap[D]? = some (fI vb at' vp e d n))∧Kb D w w'
theorem kJ {D:Nat} {vb vp:Value} {e:Nat→Value} {it:Nat} {s:ByteArray} {w W1 W3:World} {pos at1 at3:Nat} {d1 n1 d3 n3:Int} (h:Ao D vb vp e it s w pos at1 d1 n1 W1) (hk:Kb D W1 W3) (hd:W3.heap[D]? = some (fI vb at3 vp e d3 n3)) (hlt:D≠it):Ao D vb vp e it s w pos at3 d3 n3 W3 :=
 ⟨hd,(hk.block it (aA h.itr) (Ne.symm hlt)).trans h.itr,h.kb.trans hk⟩
theorem As (n:Int) (h0:0≤n) (h1:n≤100000):wrap64 n=n:=by unfold wrap64;omega
theorem rM (x:UInt8):wrap64 (x.toNat:Int)=(x.toNat:Int):=As _ om (by have:=x.toNat_lt;omega)
theorem Wq (x y:UInt8):wrap64 ((x.toNat:Int)+(y.toNat:Int)*256)=(x.toNat:Int)+(y.toNat:Int)*256:=As _ om (by have:=x.toNat_lt;have:=y.toNat_lt;omega)
theorem aAn (y:UInt8):wrap64 ((y.toNat:Int)*256)=(y.toNat:Int)*256:=As _ om (by have:=y.toNat_lt;omega)
theorem oM {W3 wr:World} {it pos L:Nat} {s:ByteArray} (h:W3.heap[it]? = some (.stringIter s (pos+1))) (h0:wr.heap[it]? = some (.stringIter s pos)) (hlt:pos<L) :
 (match W3.heap[it]? with|some (.stringIter _ pos)=>L - pos|_=>0)<(match wr.heap[it]? with|some (.stringIter _ pos)=>L - pos|_=>0):=by
 rw[h,h0];show L - (pos+1)<L - pos
 omega
theorem aCB {b:List UInt8} {k:Nat} {x:UInt8} (h:b[k]? = some x):b.drop k=x::b.drop (k+1):=by
 obtain⟨hlt,he⟩:=Qd.1 h;rw[Yj hlt,he]
theorem aMa {p:Prop} (h:p:=by
 go_wp2_with fail
 refine (mB D b vb vp e at' d' n' _ HX1.out.dec (dY HV.out HX1.out.kb HNE.out) om).mono ?_;rintro r w2 ⟨rfl,hb2⟩;have HB2:=Hh hb2;clear hb2;have hRn:R=none:=by rw[←HRR2.out,show b.drop at'=[] from Zj om];rfl
 subst hRn;go_wp2_with fail
 refine⟨rfl,rfl,⟨_,_,_,aB HX1.out.dec HB2.out (aA HX1.out.dec)⟩,HX1.out.kb.trans (Kb.of_below HB2.out)⟩):p:=h
theorem vK (D:Nat) (b:List UInt8) (vb vp:Value) (e:Nat→Value) (p:Nat) (d n:Int) (ls:List UInt8) (hls:∀ c∈ls,c=100∨c=101∨c=110∨c=119) (w:World) (hD:w.heap[D]? = some (fI vb p vp e d n)) (hp:p≤b.length) (hv:Row w vb b.length (aT b)) (hl:b.length≤1000000) (_hll:ls.length≤100) (hne:vb.ownBlock≠some D) :
 Calls prog 194 #[.pointer D,ls] w (Fn D b vb vp e w (dZ ls (b.drop p) d n)):=by
 obtain⟨R,hR⟩:∃ R,dZ ls (b.drop p) d n=R:=⟨_,rfl⟩;rw[hR];have hlD:=aA hD;have HD:=Hh hD;have HV:=Hh hv;have HNE:=Hh hne;have HR:=Hh hR;have HLS:=Hh hls;clear hD hv hne hR hls;go_enter func194,ntmps194
 go_wp2_with fail
 generalize hW0:World.iter _ _ _=W0;have hx0:Ao D vb vp e w ⟨ls.toArray⟩ w 0 p d n W0:=by
  rw[←hW0];exact⟨aE HD.out,World.iter_heap _ _ _,Kb.alloc (Kb.refl _ _) _⟩
 have HX0:=Hh hx0;clear hW0 hx0;go_loopw [5,6] (fun _ _ wr=>∃ (pos at':Nat) (d' n':Int),pos≤ls.length∧at'≤b.length∧Hid (Ao D vb vp e w ⟨ls.toArray⟩ w pos at' d' n' wr)∧Hid (dZ (ls.drop pos) (b.drop at') d' n'=R)) (fun _ _ wr=>match wr.heap[w.heap.size]? with|some (.stringIter _ pos)=>ls.length - pos|_=>0)
 case atStart=>exact⟨0,p,d,n,Qi _,hp,HX0,HR⟩
 case round =>
  obtain⟨pos,at',d',n',hpos,hat,HX,HRR⟩:=hrel;by_cases hlt:pos<ls.length
  · obtain⟨c,hc⟩:∃ c,ls[pos]? = some c:=⟨_,Qb hlt⟩;have hsp:pos<(⟨ls.toArray⟩:ByteArray).size:=by show pos<ls.toArray.size;simpa using hlt
    have hsc:((⟨ls.toArray⟩:ByteArray)[pos]'hsp)=c:=by
     have h1:((⟨ls.toArray⟩:ByteArray)[pos]'hsp)=ls[pos]:=by show ls.toArray[pos]'_=_;simp
     rw[h1]
     have:=(Qd.1 hc).2
     exact this
    have hcc:=HLS.out c (Qu hc);have hnx:=fun ty=>xX (P:=prog) HX.out.itr hsp (by rw[hsc];rcases hcc with rfl|rfl|rfl|rfl<;>decide) ty;rw[hsc] at hnx;have hdrop:ls.drop pos=c::ls.drop (pos+1):=by
     rw[Yj hlt,(Qd.1 hc).2]
    have HRR2:=Hh (show dZ (c::ls.drop (pos+1)) (b.drop at') d' n'=R by rw[←hdrop];exact HRR.out)
    clear hc hsc hdrop;obtain⟨W1,hW1⟩:∃ W1,wr.putObj w (.stringIter ⟨ls.toArray⟩ (pos+1))=W1:=⟨_,rfl⟩;rw[hW1] at hnx;have hx1:Ao D vb vp e w ⟨ls.toArray⟩ w (pos+1) at' d' n' W1:=by
     rw[←hW1];exact⟨(World.putObj_heap_other om).trans HX.out.dec,World.putObj_heap_same (aA HX.out.itr),aPM HX.out.kb lr⟩
    have HX1:=Hh hx1;have HIT:=Hh HX.out.itr;clear hx1 hW1;rcases hcc with rfl|rfl|rfl|rfl
    · by_cases hb:at'<b.length
      · obtain⟨x,hx⟩:∃ x,b[at']? = some x:=⟨_,Qb hb⟩;have HBX:=Hh hx;clear hx;go_wp2_with fail
        refine (fW D b vb vp e at' d' n' x _ HX1.out.dec (dY HV.out HX1.out.kb HNE.out) HBX.out hl HNE.out).mono ?_;rintro r w2 ⟨rfl,hd2,hk2⟩;have HX2:=Hh (kJ HX1.out hk2 hd2 om);have c9:=aC HX2.out.dec 9;have f9:=aH HX2.out.dec 9;have l9:=aA HX2.out.dec;clear hd2 hk2;go_wp2_with fail
        refine (xS x _).mono ?_;rintro r w3 ⟨rfl,rfl⟩;go_wp2_with fail
        have HF:=Hh (kJ (d3:=sgn x) (n3:=n') HX2.out (Kb.setCell (Kb.refl _ _) 9 _) (aG (i:=9) (v:=.int .i64 (sgn x)) HX2.out.dec) om);refine⟨⟨pos+1,at'+1,sgn x,n',om,om,HF,Hh ?_⟩,oM HF.out.itr HIT.out hlt⟩
        rw[←HRR2.out,aCB HBX.out];rfl
      · exact aMa
    · by_cases hb:at'<b.length
      · obtain⟨x,hx⟩:∃ x,b[at']? = some x:=⟨_,Qb hb⟩;have HBX:=Hh hx;clear hx;go_wp2_with fail
        refine (fW D b vb vp e at' d' n' x _ HX1.out.dec (dY HV.out HX1.out.kb HNE.out) HBX.out hl HNE.out).mono ?_;rintro r w2 ⟨rfl,hd2,hk2⟩;have HX2:=Hh (kJ HX1.out hk2 hd2 om);have c9:=aC HX2.out.dec 10;have f9:=aH HX2.out.dec 10;have l9:=aA HX2.out.dec;clear hd2 hk2;go_wp2_with fail
        refine (xS x _).mono ?_;rintro r w3 ⟨rfl,rfl⟩;go_wp2_with fail
        have HF:=Hh (kJ (d3:=d') (n3:=sgn x) HX2.out (Kb.setCell (Kb.refl _ _) 10 _) (aG (i:=10) (v:=.int .i64 (sgn x)) HX2.out.dec) om);refine⟨⟨pos+1,at'+1,d',sgn x,om,om,HF,Hh ?_⟩,oM HF.out.itr HIT.out hlt⟩
        rw[←HRR2.out,aCB HBX.out];rfl
      · exact aMa
    · by_cases hb:at'<b.length
      · obtain⟨x,hx⟩:∃ x,b[at']? = some x:=⟨_,Qb hb⟩;have HBX:=Hh hx;clear hx;go_wp2_with fail
        refine (fW D b vb vp e at' d' n' x _ HX1.out.dec (dY HV.out HX1.out.kb HNE.out) HBX.out hl HNE.out).mono ?_;rintro r w2 ⟨rfl,hd2,hk2⟩;have HX2:=Hh (kJ HX1.out hk2 hd2 om);have c9:=aC HX2.out.dec 10;have f9:=aH HX2.out.dec 10;have l9:=aA HX2.out.dec;clear hd2 hk2;have hwx:wrap64 (x.toNat:Int)=(x.toNat:Int):=rM x;go_wp2_with fail
        have HF:=Hh (kJ (d3:=d') (n3:=(x.toNat:Int)) HX2.out (Kb.setCell (Kb.refl _ _) 10 _) (aG (i:=10) (v:=.int .i64 (x.toNat)) HX2.out.dec) om);refine⟨⟨pos+1,at'+1,d',(x.toNat:Int),om,om,HF,Hh ?_⟩,oM HF.out.itr HIT.out hlt⟩
        rw[←HRR2.out,aCB HBX.out];rfl
      · exact aMa
    · by_cases hb:at'<b.length
      · obtain⟨x,hx⟩:∃ x,b[at']? = some x:=⟨_,Qb hb⟩;have HBX:=Hh hx;clear hx;go_wp2_with fail
        refine (fW D b vb vp e at' d' n' x _ HX1.out.dec (dY HV.out HX1.out.kb HNE.out) HBX.out hl HNE.out).mono ?_;rintro r w2 ⟨rfl,hd2,hk2⟩;have HX2:=Hh (kJ HX1.out hk2 hd2 om);clear hd2 hk2;have hwx:wrap64 (x.toNat:Int)=(x.toNat:Int):=rM x;go_wp2_with fail
        by_cases hb1:at'+1<b.length
        · obtain⟨y,hy⟩:∃ y,b[at'+1]? = some y:=⟨_,Qb hb1⟩;have HBY:=Hh hy;clear hy;refine (fW D b vb vp e (at'+1) d' n' y _ HX2.out.dec (dY HV.out HX2.out.kb HNE.out) HBY.out hl HNE.out).mono ?_;rintro r w3 ⟨rfl,hd2,hk2⟩;have HX3:=Hh (kJ HX2.out hk2 hd2 om);have c9:=aC HX3.out.dec 10;have f9:=aH HX3.out.dec 10;have l9:=aA HX3.out.dec;clear hd2 hk2;have hy0:(y.toNat:Int)<256:=by have:=y.toNat_lt;omega
          have hx0:(x.toNat:Int)<256:=by have:=x.toNat_lt;omega
          have hwy:wrap64 (y.toNat:Int)=(y.toNat:Int):=rM y;have hwz:wrap64 ((y.toNat:Int)*256)=(y.toNat:Int)*256:=aAn y;have hws:wrap64 ((x.toNat:Int)+(y.toNat:Int)*256)=(x.toNat:Int)+(y.toNat:Int)*256:=Wq x y;go_wp2_with fail
          have HF:=Hh (kJ (d3:=d') (n3:=(x.toNat:Int)+(y.toNat:Int)*256) HX3.out (Kb.setCell (Kb.refl _ _) 10 _) (aG (i:=10) (v:=.int .i64 ((x.toNat:Int)+(y.toNat:Int)*256)) HX3.out.dec) om);refine⟨⟨pos+1,at'+1+1,d',(x.toNat:Int)+(y.toNat:Int)*256,om,om,HF,Hh ?_⟩,oM HF.out.itr HIT.out hlt⟩
          rw[←HRR2.out,aCB HBX.out,aCB HBY.out];rfl
        · skip
          refine (mB D b vb vp e (at'+1) d' n' _ HX2.out.dec (dY HV.out HX2.out.kb HNE.out) om).mono ?_;rintro r w2 ⟨rfl,hb2⟩;have HB2:=Hh hb2;clear hb2;have hRn:R=none:=by rw[←HRR2.out,aCB HBX.out,show b.drop (at'+1)=[] from Zj om];rfl
          subst hRn;go_wp2_with fail
          refine⟨rfl,rfl,⟨_,_,_,aB HX2.out.dec HB2.out (aA HX2.out.dec)⟩,HX2.out.kb.trans (Kb.of_below HB2.out)⟩
      · exact aMa
  · obtain rfl:pos=ls.length:=om
    have hnx:=fun ty=>tQ (P:=prog) HX.out.itr (by show ¬ ls.length<ls.toArray.size;simp) ty;go_wp2_with fail
    go_end0
    have hRs:R=some (d',n',b.drop at'):=by
     rw[←HRR.out,Zj lr];rfl
    subst hRs;have hbl:b.length - (b.drop at').length=at':=by rw[Xm];omega
    exact⟨rfl,by rw[hbl];exact HX.out.dec,by rw[hbl],HX.out.kb⟩
end Go.Proofs.YtoigglljnklhlaaGreatDoor
