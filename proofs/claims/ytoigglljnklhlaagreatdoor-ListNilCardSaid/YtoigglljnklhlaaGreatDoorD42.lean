/- Joined. -/
import Derived.Test.YtoigglljnklhlaaGreatDoorD40
import Derived.Test.YtoigglljnklhlaaGreatDoorD41
set_option maxHeartbeats 8000000
set_option maxRecDepth 100000
namespace Go.Proofs.YtoigglljnklhlaaGreatDoor
def jM (reg:Int) (l:List Op3) (j:Nat):List Op3:=(l.take j).map (fun o=>(cB reg o).getD o)++l.drop j
theorem Jd (reg:Int) (l:List Op3):jM reg l 0=l:=by simp[jM]
theorem Py (reg:Int) (l:List Op3):jM reg l l.length=l.map (fun o=>(cB reg o).getD o):=by simp[jM]
theorem tE (reg:Int) (l:List Op3) (j:Nat):(jM reg l j).length=l.length:=by simp[jM];omega
theorem mG {reg:Int} {l:List Op3} {j:Nat} {o:Op3} (h:l[j]? = some o):(jM reg l j)[j]? = some o:=by
 obtain⟨hlt,he⟩:=List.getElem?_eq_some_iff.1 h;unfold jM;rw[List.getElem?_append_right (by simp;omega)];simp[Nat.min_eq_left (Nat.le_of_lt hlt),h]
theorem Je {reg:Int} {l:List Op3} {j:Nat} {o:Op3} (h:l[j]? = some o):jM reg l (j+1)=(jM reg l j).set j ((cB reg o).getD o):=by
 obtain⟨hlt,he⟩:=List.getElem?_eq_some_iff.1 h;have h1:l.take (j+1)=l.take j++[o]:=by rw[List.take_add_one,h];rfl
 have h2:l.drop j=o::l.drop (j+1):=by rw[List.drop_eq_getElem_cons hlt,he]
 unfold jM;rw[h1,h2,List.set_append_right _ _ (by simp;omega)];simp[Nat.min_eq_left (Nat.le_of_lt hlt)]
def lX (reg:Int) (l:List Op3) (j:Nat):Bool:=(l.take j).any fun o=>(cB reg o).isSome
theorem Jf (reg:Int) (l:List Op3):lX reg l 0=false:=by simp[lX]
theorem pW {reg:Int} {l:List Op3} {j:Nat} {o:Op3} (h:l[j]? = some o):lX reg l (j+1)=(lX reg l j || (cB reg o).isSome):=by
 unfold lX;rw[List.take_add_one,h];simp
theorem Aa (reg:Int) (l:List Op3):lX reg l l.length=!(l.all fun o=>(cB reg o).isNone):=by
 unfold lX;rw[List.take_length];induction l with
 | nil=>rfl
 | cons o l ih=>rw[List.any_cons,List.all_cons,ih];cases cB reg o<;>simp
end Go.Proofs.YtoigglljnklhlaaGreatDoor
namespace Go.Proofs.YtoigglljnklhlaaGreatDoor
open Go.RowKit Go.Sort
open Go.Proofs.Tryz
theorem Wx {a b:ByteArray} (h:a≠b):(a.toList == b.toList)=false:=by
 rw[beq_eq_false_iff_ne];intro e;rw[ByteArray.toList_eq,ByteArray.toList_eq] at e;exact h (ByteArray.ext (Array.toList_inj.1 e))
theorem Bh (m1 m2:ByteArray) (v1 v2:Value) (a b:List Op3) (w:World) (h1:Row w v1 a.length (opc a)) (h2:Row w v2 b.length (opc b)) (hl:a.length≤1000000) (_hl2:b.length≤1000000) :
 Calls prog 50 #[.agg #[.string m1,v1],.agg #[.string m2,v2]] w fun e w'=>e=.returned (.bool (decide (m1=m2∧a=b)))∧Below w.heap.size w w':=by
 obtain⟨a1,c1,rfl,hc1,h1⟩:=h1.op;obtain⟨a2,c2,rfl,hc2,h2⟩:=h2.op;obtain⟨R,hR⟩:∃ R,decide (m1=m2∧a=b)=R:=⟨_,rfl⟩;rw[hR];have HR:=Hh hR;clear hR;by_cases hm:m1=m2
 · subst hm;have HR2:Hid (decide (a=b)=R):=Hh (by have:=HR.out;simpa using this);clear HR;by_cases hlen:a.length=b.length
   · have hle:((a.length:Int) != (b.length:Int))=false:=by simp;omega
     have H1:=Hh h1;have H2:=Hh h2;have Hlen:=Hh hlen;clear h1 h2 hlen;go_enter func50,ntmps50
     go_wp2_with fail
     generalize hW0:((w.alloc _).alloc _)=W0;have hb0:W0.heap[w.heap.size]? = some (.cells #[.string m1,.slice a1 a.length c1] 53 (0,0)):=by rw[←hW0];exact aE (aF _ _)
     have hb1:W0.heap[w.heap.size+1]? = some (.cells #[.string m1,.slice a2 b.length c2] 53 (0,0)):=by
      rw[←hW0]
      have:=aF (w.alloc (.cells #[.string m1,.slice a1 a.length c1] 53)) (.cells #[.string m1,.slice a2 b.length c2] 53)
      rwa [World.size_alloc] at this
     have HBW:=Hh (show Below w.heap.size w W0 by rw[←hW0];exact bl);have HB0:=Hh hb0;have HB1:=Hh hb1;clear hW0 hb0 hb1;go_wp2_with fail
     go_loopw [5] (fun i wr=>∃ j:Nat,j≤a.length∧i=.int .i64 j∧Hid (Below W0.heap.size W0 wr)∧Hid (a.take j=b.take j)) (fun i _=>a.length - (intOf i).toNat)
     case atStart=>exact⟨0,Nat.zero_le _,rfl,Hh br,Hh rfl⟩
     case round =>
      obtain⟨j,hj,rfl,HB,HT⟩:=hrel;have hk0:=aB HB0.out HB.out (aA HB0.out);have hk1:=aB HB1.out HB.out (aA HB1.out);have p0:=aC hk0 1;have p1:=aC hk1 1;clear hk0 hk1;by_cases hlt:j<a.length
      · obtain⟨⟨x0,x1,x2⟩,hx⟩:∃ x,a[j]? = some x:=⟨_,List.getElem?_eq_getElem hlt⟩;obtain⟨⟨y0,y1,y2⟩,hy⟩:∃ y,b[j]? = some y:=⟨_,List.getElem?_eq_getElem (by have:=Hlen.out;omega)⟩;obtain⟨g1,o1,rfl,hg1,h1⟩:=H1.out (by intro e;rw[e] at hlt;exact absurd hlt (Nat.not_lt_zero _))
        obtain⟨g2,o2,rfl,hg2,h2⟩:=H2.out (by intro e;have:=Hlen.out;rw[e] at this;have h0:([]:List Op3).length=0:=rfl;omega)
        obtain⟨cx0,cx1,cx2⟩:=h1 j _ hx;obtain⟨cy0,cy1,cy2⟩:=h2 j _ hy;have HBX:=Hh (HBW.out.trans (HB.out.mono HBW.out.size));rw[←HBX.out.cell (p:=⟨_,_,none⟩) hg1] at cx0 cx1 cx2;rw[←HBX.out.cell (p:=⟨_,_,none⟩) hg2] at cy0 cy1 cy2;have Hx:=Hh hx;have Hy:=Hh hy;clear hx hy h1 h2;have hi0:(0:Int)≤(j:Int):=om
        have hi1:(j:Int)<(a.length:Int):=om
        have hi2:(j:Int)<(b.length:Int):=by have:=Hlen.out;omega
        by_cases e0:x0=y0∧x1=y1∧x2=y2
        · obtain⟨rfl,rfl,rfl⟩:=e0;go_wp2_with fail
          go_region
          all_goals
           go_wp2_with fail
           go_roundw
          case rel=>exact⟨j+1,om,by go_num,Hh HB.out.drew,Hh (by rw[List.take_add_one,List.take_add_one,HT.out,Hx.out,Hy.out])⟩
          case measure=>simp[intOf];omega
        · have hr:R=false:=by rw[←HR2.out];exact decide_eq_false (fun e=>e0 (by have h3:=Hx.out;rw[e,Hy.out] at h3;cases h3;exact⟨rfl,rfl,rfl⟩))
          subst hr;have hcase:(x0=y0∧x1=y1∧x2≠y2)∨(x0=y0∧x1≠y1)∨x0≠y0:=om
          rcases hcase with⟨rfl,rfl,e2⟩|⟨rfl,e1⟩|e0';all_goals
           clear e0;go_wp2_with fail
           go_region
           all_goals
            go_wp2_with fail
            go_ret;exact⟨rfl,HBX.out.drew⟩
      · obtain rfl:j=a.length:=om
        have hr:R=true:=by
         rw[←HR2.out];refine decide_eq_true ?_
         have:=HT.out
         rwa [List.take_length,Hlen.out,List.take_length] at this
        subst hr;have hi1:¬ (a.length:Int)<(a.length:Int):=om
        go_wp2_with fail
        go_ret;exact⟨rfl,HBW.out.trans (HB.out.mono HBW.out.size)⟩
   · have hle:((a.length:Int) != (b.length:Int))=true:=by rw[bne_iff_ne];omega
     have hr:R=false:=by rw[←HR2.out];exact decide_eq_false (fun e=>hlen (by rw[e]))
     subst hr;clear h1 h2 hlen;go_enter func50,ntmps50
     go_wp2_with fail
     go_ret;exact⟨rfl,bl⟩
 · have hb1:=Wx hm;have hr:R=false:=by rw[←HR.out];exact decide_eq_false (fun e=>hm e.1)
   subst hr;clear h1 h2 hm;go_enter func50,ntmps50
   go_wp2_with fail
   go_ret;exact⟨rfl,bl⟩
end Go.Proofs.YtoigglljnklhlaaGreatDoor
namespace Go.Proofs.YtoigglljnklhlaaGreatDoor
open Go.RowKit Go.Sort
theorem Zf {reg:Int} (hr:2<reg) {o Y:Op3} (h:cB reg o=some Y):Y≠o:=by
 unfold cB at h;split at h
 · rename_i h1;cases h
   intro e
   have:=congrArg (fun p:Op3=>p.2.1) e
   rcases h1 with rfl|rfl<;>simp at this<;>omega
 · split at h
   · rename_i h1;cases h
     intro e
     have:=congrArg (fun p:Op3=>p.1) e
     simp at this
     omega
   · cases h
theorem Px {reg:Int} (hr:2<reg) (o:Op3):(cB reg o).isSome=decide ((cB reg o).getD o≠o):=by
 rcases h:cB reg o with _|Y
 · simp
 · have:=Zf hr h
   simp[this]
structure Rd2 (B:Nat) (W1:World) (g gr ob n c2:Nat) (mn:List UInt8) (T:List Op3) (o:Op3) (w:World):Prop where
 bel:Below B W1 w
 own:w.ownsRow B 144 3 (.slice (some ⟨gr,0,none⟩) n c2) n (opc T)
 cop:w.heap[g]? = some (.cells #[.string ⟨mn.toArray⟩,.slice (some ⟨gr,0,none⟩) n c2] 53 (0,0))
 box:w.heap[ob]? = some (.cells #[.int .i64 o.1,.int .i64 o.2.1,.int .i64 o.2.2] 144 (0,0))
theorem Rd2.below {B:Nat} {W1:World} {g gr ob n c2:Nat} {mn:List UInt8} {T:List Op3} {o:Op3} {w w':World} (h:Rd2 B W1 g gr ob n c2 mn T o w) (hB:B≤W1.heap.size) (hb:Below w.heap.size w w'):Rd2 B W1 g gr ob n c2 mn T o w' :=
 ⟨h.bel.trans (hb.mono (Nat.le_trans hB h.bel.size)),dG h.own hb,aB h.cop hb (aA h.cop),aB h.box hb (aA h.box)⟩
theorem Rd2.set {B:Nat} {W1:World} {g gr ob n c2 i:Nat} {mn:List UInt8} {T T':List Op3} {o:Op3} {w:World} {u:Value} (h:Rd2 B W1 g gr ob n c2 mn T o w) (hB:B≤gr) (hg:g≠gr) (ho:ob≠gr) (hi:i<(opc T).length) (hT:(opc T).set i u=opc T'):Rd2 B W1 g gr ob n c2 mn T' o (w.setCell ⟨gr,i,none⟩ u) :=
 ⟨h.bel.setCell hB _,hT ▸ jR h.own hi,aD h.cop hg,aD h.box ho⟩
theorem Rd2.setO {B:Nat} {W1:World} {g gr ob n c2 i:Nat} {mn:List UInt8} {T:List Op3} {o x:Op3} {w:World} (h:Rd2 B W1 g gr ob n c2 mn T o w) (hB:B≤gr) (hg:g≠gr) (ho:ob≠gr) (hi:i<T.length) :
 Rd2 B W1 g gr ob n c2 mn (T.set i x) o (((w.setCell ⟨gr,i*3,none⟩ (.int .i64 x.1)).setCell ⟨gr,i*3+1,none⟩ (.int .i64 x.2.1)).setCell ⟨gr,i*3+2,none⟩ (.int .i64 x.2.2)) :=
 ⟨((h.bel.setCell hB _).setCell hB _).setCell hB _,jQ h.own hi,aD (aD (aD h.cop hg) hg) hg,aD (aD (aD h.box ho) ho) ho⟩
theorem Rd2.cells {B:Nat} {W1:World} {g gr ob n c2 j:Nat} {mn:List UInt8} {T:List Op3} {o x:Op3} {w:World} (h:Rd2 B W1 g gr ob n c2 mn T o w) (hx:T[j]? = some x) (hn:T.length=n) :
 (w.cell? ⟨gr,j*3,none⟩=some (.int .i64 x.1)∧w.cell? ⟨gr,j*3+1,none⟩=some (.int .i64 x.2.1)∧w.cell? ⟨gr,j*3+2,none⟩=some (.int .i64 x.2.2))∧(w.frozen? ⟨gr,j*3,none⟩=false∧w.frozen? ⟨gr,j*3+1,none⟩=false∧w.frozen? ⟨gr,j*3+2,none⟩=false)∧gr<w.heap.size:=by
 have hj:=(List.getElem?_eq_some_iff.1 hx).1;have ho:=h.own;rcases ho.2 with⟨_,hz⟩|⟨gr',cap,cur,hv2,hgB,hblk,_⟩
 · omega
 cases hv2
 subst hn;obtain⟨a1',c1',ha1,_,hcells⟩:=(WRow.of_owns ho).op;cases ha1
 obtain⟨g',o',ho',hlt,_,hcells⟩:=hcells (by intro e;rw[e] at hj;exact absurd hj (Nat.not_lt_zero _))
 cases ho'
 obtain⟨d0,d1,d2,_,_,_⟩:=hcells j _ hx;simp only[Nat.zero_add] at d0 d1 d2;exact⟨⟨d0,d1,d2⟩,⟨aH hblk _,aH hblk _,aH hblk _⟩,aA hblk⟩
theorem Rd2.boxc {B:Nat} {W1:World} {g gr ob n c2:Nat} {mn:List UInt8} {T:List Op3} {o:Op3} {w:World} (h:Rd2 B W1 g gr ob n c2 mn T o w) :
 w.cell? ⟨g,1,none⟩=some (.slice (some ⟨gr,0,none⟩) n c2)∧w.cell? ⟨ob,0,none⟩=some (.int .i64 o.1)∧w.cell? ⟨ob,1,none⟩=some (.int .i64 o.2.1)∧w.cell? ⟨ob,2,none⟩=some (.int .i64 o.2.2)∧ob<w.heap.size∧g<w.heap.size :=
 ⟨aC h.cop 1,aC h.box 0,aC h.box 1,aC h.box 2,aA h.box,aA h.cop⟩
theorem Jg {reg:Int} {l:List Op3} (h:lX reg l l.length=false):l.all (fun o=>(cB reg o).isNone)=true:=by
 rw[Aa] at h;simpa using h
theorem Mf (mn:List UInt8) (l:List Op3) (ex:List UInt8) (reg:Int) (h:lX reg l l.length=false):bG (mn,l) ex reg=(([],[]),[]):=by
 have hall:=Jg h;have hi:gU l=none:=by
  unfold gU;rw[List.findIdx?_eq_none_iff];intro x hx
  have:=List.all_eq_true.1 hall x hx
  by_cases hx4:x=(4,2,0)
  · subst hx4;simp[cB] at this
  · simpa using hx4
 unfold bG;simp only[hi];rw[if_pos (.inl hall)]
theorem Xc (ex:List UInt8) (reg:Int):bG ([69,88],[(3,1,0),(3,2,0)]) ex reg=(([],[]),[]):=by
 unfold bG;have hi:gU [((3:Int),(1:Int),(0:Int)),(3,2,0)]=none:=dc
 simp[hi]
theorem Rp (mn:List UInt8) (l:List Op3) (ex:List UInt8) (reg:Int) (h:lX reg l l.length=true) (hne:(mn,l)≠([69,88],[(3,1,0),(3,2,0)])) (hp:∀ m,m<l.length→mn≠[74,80]→l[m]? ≠ some (4,2,0)) :
 bG (mn,l) ex reg=((mn,jM reg l l.length),ex):=by
 rw[Py];have hna:¬ (l.all (fun o=>(cB reg o).isNone)=true):=by
  rw[Aa] at h;simpa using h
 unfold bG;dsimp only;by_cases hj:mn=[74,80]
 · rcases hi:gU l with _|k
   · simp only;rw[if_neg (by rintro (h1|h1);exact hna h1;exact hne h1)]
   · simp only[hj];rw[if_neg sm]
 · have hi:gU l=none:=by
    unfold gU;rw[List.findIdx?_eq_none_iff];intro x hx;obtain⟨k,hk,rfl⟩:=List.getElem_of_mem hx
    have:=hp k hk hj
    rw[List.getElem?_eq_getElem hk] at this;simpa using this
   simp only[hi];rw[if_neg (by rintro (h1|h1);exact hna h1;exact hne h1)]
theorem aAt {W:World} {g:Nat} (h:W.heap[g]? = some (.cells (opc [((3:Int),(1:Int),(0:Int)),(3,2,0)]).toArray 144 (0,0))):Row W (.slice (some ⟨g,0,none⟩) 2 2) [((3:Int),(1:Int),(0:Int)),(3,2,0)].length (opc [(3,1,0),(3,2,0)]) :=
 Row.of_owns (nV h (Nat.zero_le _) dc)
end Go.Proofs.YtoigglljnklhlaaGreatDoor
namespace Go.Proofs.YtoigglljnklhlaaGreatDoor
open Go.RowKit Go.Sort
open Go.Proofs.Tryz
theorem aAS (l:List UInt8):(⟨(100::l).toArray⟩:ByteArray)=⟨#[100]⟩++⟨l.toArray⟩:=ByteArray.ext (Array.toList_inj.1 sm)
theorem rV {α:Type} {l:List α} {i:Nat} {a:α} (h:l[i]? = some a):l.set i a=l:=by
 obtain ⟨hlt,he⟩:=List.getElem?_eq_some_iff.1 h;subst he;exact List.set_getElem_self hlt
theorem yL {l:List Op3} {j:Nat} {a b c r:Int} (h:l[j]? = some (a,b,c)):(opc l).set (j*3+1) (.int .i64 r)=opc (l.set j (a,r,c)):=by
 obtain ⟨hlt,_⟩:=List.getElem?_eq_some_iff.1 h;obtain ⟨h0,_,h2⟩:=nW l j _ h;rw [←kF l j (a,r,c) hlt];show _=(((opc l).set (j*3) (.int .i64 a)).set (j*3+1) (.int .i64 r)).set (j*3+2) (.int .i64 c)
 rw [rV h0];exact (rV (by rw [List.getElem?_set_ne om]; exact h2)).symm
theorem Cx {l:List Op3} {j:Nat} (hj:l[j]? = some (4,2,0)) (hm:∀ m,m<j→l[m]? ≠ some (4,2,0)):gU l=some j:=by
 obtain ⟨hlt,he⟩:=List.getElem?_eq_some_iff.1 hj;unfold gU;rw [List.findIdx?_eq_some_iff_getElem];refine ⟨hlt,by simp [he],fun m hmj=>?_⟩
 have h1:=hm m hmj;rw [List.getElem?_eq_getElem om] at h1;simpa using h1
theorem rP {p:Prop} (h:p:=by
 refine ⟨j+1,om,by rw [HSN.out],by go_num,Hh HRD.out.bel,Hh (by rw [HSX.out]; exact HRD.out.own),Hh HRD.out.cop⟩):p:=h
theorem Kj {p:Prop} (h:p:=by
 refine ⟨_,[],rfl,rfl,(fun j hj=>by cases hj),?_⟩;intro R a1 W hA hb hd hv;have ha:=fun o=>(Below.refl W.heap.size W).alloc lr o;go_simp;exact hv _ _ (ha _) ⟨_,rfl,hb.size,aF _ _⟩):p:=h
theorem Ki {p:Prop} (h:p:=by
 refine ⟨_,[],rfl,rfl,(fun j hj=>by cases hj),?_⟩;intro R a1 W hA hb hd hv;have e3:=hA.get (k:=3) (by rfl) (by rfl);go_simp;exact hv _ _ br rfl):p:=h
theorem oE (i:aY) (ex:List UInt8) (reg:Int) (hr5:5≤reg) (hr6:reg≤6) (hwf:∀ o∈i.2,(o.1=1∨o.1=3∨o.1=4)→o.2.2=0) (v:Value) (w:World) (hv:Row w v i.2.length (opc i.2)) (hn:i.2=[]→v=.slice none 0 0) (hl:i.2.length≤10) (hexl:ex.length≤100):Calls prog 88 #[.agg #[.string ⟨i.1.toArray⟩,v],.string ⟨ex.toArray⟩,.int .i64 reg] w (aU (bG i ex reg) w):=by
 have hreg:2<reg:=om
 have HWF:=Hh hwf; clear hwf;obtain ⟨i0,hi,hzz0,hzz1,hzz2⟩:=info_parts Tryz.infoOperand;obtain ⟨a,c,hva,_,_⟩:=id hv;subst hva;have HV:=Hh hv; have HNN:=Hh hn; clear hv hn;go_enter func88,ntmps88
 go_wp2_with fail
 generalize hW0:((w.alloc _).alloc _)=W0;have h0:W0.heap[w.heap.size]? = some (.cells #[.string ⟨i.1.toArray⟩,.slice a i.2.length c] 53 (0,0)):=by rw [←hW0]; exact aE (aF _ _)
 have h1:W0.heap[w.heap.size+1]? = some (.cells #[.string ⟨#[]⟩,.slice none 0 0] 53 (0,0)):=by
  rw [←hW0]
  have:=aF (w.alloc (.cells #[.string ⟨i.1.toArray⟩,.slice a i.2.length c] 53)) (.cells #[.string ⟨#[]⟩,.slice none 0 0] 53)
  rwa [World.size_alloc] at this
 have HBW:=Hh (show Below w.heap.size w W0 by rw [←hW0]; exact aQ (aQ br))
 have H0:=Hh h0; have H1:=Hh h1;have HSRC:=Hh (fun W (hb:Below w.heap.size w W)=>Rf (HV.out.below hb) HNN.out);have HONE:=Hh (show ∀ u∈opc i.2,u.oneCell'=true from fun u hu=>by
  unfold opc at hu;obtain ⟨o,_,ho⟩:=List.mem_flatMap.1 hu;simp at ho
  rcases ho with rfl | rfl | rfl<;>rfl)
 clear hW0 h0 h1;refine rI kr 8 Ol (fun k v W=>Tf W0.heap.size w.heap.size i (.slice a i.2.length c) k v W) (Out Vy _) (fun k v v1 v2 _ h hb=>Cv _ _ _ _ k v v1 v2 h hb) (Out.refl _ _) (fun k v a hk hne hA=>hA.put _ v (Ok k hk hne).1 (Ok k hk hne).2) (fun k j hk hj=>Td k hk j hj) ?_ ?_ ?_ (gQ kr)
 · intro k hk hk8;have hk:k<9:=hk;rcases (by omega:k=0∨k=1∨k=2∨k=3∨k=4∨k=5∨k=6∨k=7) with rfl | rfl | rfl | rfl | rfl | rfl | rfl | rfl
   · exact Ki
   · refine ⟨_,[0],rfl,rfl,(fun j hj=>by obtain rfl:=List.mem_singleton.1 hj; exact ⟨⟨0,.data⟩,by simp,rfl,rfl⟩),?_⟩;intro R a1 W hA hb hd hv;have e1:a1.tmps[13]?.getD undef=_:=(aJ a1 13).symm.trans (hd 0 sm);have hq:=aB H0.out hb (aA H0.out);have c0:=aC hq 0;go_simp;exact hv _ _ br rfl
   · exact Kj
   · exact Ki
   · refine ⟨_,[3],rfl,rfl,(fun j hj=>by obtain rfl:=List.mem_singleton.1 hj; exact ⟨⟨3,.data⟩,by simp,rfl,rfl⟩),?_⟩;intro R a1 W hA hb hd hv;have e1:a1.tmps[16]?.getD undef=_:=(aJ a1 16).symm.trans (hd 3 sm);have hq:=aB H0.out hb (aA H0.out);have c1:=aC hq 1;go_simp;exact hv _ _ br rfl
   · refine ⟨_,[2,4],rfl,rfl,(fun j hj=>by simp only [List.mem_cons,List.not_mem_nil,or_false] at hj; rcases hj with rfl | rfl; exact ⟨⟨2,.data⟩,by simp,rfl,rfl⟩; exact ⟨⟨4,.data⟩,by simp,rfl,rfl⟩),?_⟩;intro R a1 W hA hb hd hv;obtain ⟨g,q1,q2,q3⟩:∃ g,a1.tmps.getD 15 undef=.slice (some ⟨g,0,none⟩) 0 0∧W0.heap.size≤g∧W.heap[g]? = some (.cells #[] 144 (0,0)):=hd 2 sm;have q4:a1.tmps.getD 17 undef=.slice a i.2.length c:=hd 4 sm;obtain ⟨v2,w2,hr,ho,hb2⟩:=Mc (ty:=51) underlying51 hi hzz0 hzz1 hzz2 rfl q2 q3 hb.size (.slice a i.2.length c) i.2 (HSRC.out _ (HBW.out.trans (hb.mono HBW.out.size))) hl HONE.out HNN.out;exact Wm (.tmp 15) (.tmp 17) 51 rfl q1 q4 hr (hv _ _ hb2 ho)
   · refine ⟨_,[1,5],rfl,rfl,(fun j hj=>by simp only [List.mem_cons,List.not_mem_nil,or_false] at hj; rcases hj with rfl | rfl; exact ⟨⟨1,.data⟩,by simp,rfl,rfl⟩; exact ⟨⟨5,.data⟩,by simp,rfl,rfl⟩),?_⟩;intro R a1 W hA hb hd hv;have e1:a1.tmps[14]?.getD undef=_:=(aJ a1 14).symm.trans (hd 1 sm);obtain ⟨u,hu⟩:∃ u,a1.tmps.getD 18 undef=u:=⟨_,rfl⟩;have q5:W.ownsRow W0.heap.size 144 3 u i.2.length (opc i.2):=hu ▸ hd 5 sm;obtain ⟨a2,c2,rfl⟩:=aI q5;have e2:=(aJ a1 18).symm.trans hu;go_simp;exact hv _ _ br ⟨_,rfl,q5⟩
   · exact Kj
 · refine ⟨_,rfl,rfl,?_⟩;intro R a1 W hA hb hd hQ;obtain ⟨g,q1,q2,q3⟩:∃ g,a1.tmps.getD 8 undef=.pointer (some ⟨g,0,none⟩)∧W0.heap.size≤g∧W.heap[g]? = some (.cells #[.string ⟨#[]⟩,.slice none 0 0] 53 (0,0)):=hd 7 dc dc;obtain ⟨u,p1,p2⟩:∃ u,a1.tmps.getD 19 undef=.agg #[.string ⟨i.1.toArray⟩,u]∧W.ownsRow W0.heap.size 144 3 u i.2.length (opc i.2):=hd 6 dc dc;obtain ⟨a2,c2,rfl⟩:=aI p2;have e8:=(aJ a1 8).symm.trans q1;have e19:=(aJ a1 19).symm.trans p1;have c0:=aC q3 0; have c1:=aC q3 1; have f0:=aH q3 0; have f1:=aH q3 1; have hlt:=aA q3;go_simp;apply hQ
   have e1:=hA.get (k:=1) (by rfl) (by rfl);have e2:=hA.get (k:=2) (by rfl) (by rfl);have e3:=hA.get (k:=3) (by rfl) (by rfl);have e6:=hA.get (k:=6) (by rfl) (by rfl);have e7:=hA.get (k:=7) (by rfl) (by rfl);have hsz:a1.tmps.size=119:=hA.size;have hdf:a1.defers=[]:=hA.defers;generalize hW1:((W.setCell _ _).setCell _ _)=W1;have hg1:W1.heap[g]? = some (.cells #[.string ⟨i.1.toArray⟩,.slice a2 i.2.length c2] 53 (0,0)):=by rw [←hW1]; exact aG (aG q3)
   have ho1:W1.ownsRow W0.heap.size 144 3 (.slice a2 i.2.length c2) i.2.length (opc i.2):=by rw [←hW1]; exact Kb.owns p2 (((Kb.refl g W).setCell 0 _).setCell 1 _) (Dp p2 q3)
   have hk1:Kb g W W1:=by rw [←hW1]; exact ((Kb.refl g W).setCell 0 _).setCell 1 _
   have hr1:=(hk1.block _ (aA (aB H1.out hb (aA H1.out))) (by have:=aA H1.out; omega)).trans (aB H1.out hb (aA H1.out));have hi1:=(hk1.block _ (aA (aB H0.out hb (aA H0.out))) (by have:=aA H0.out; omega)).trans (aB H0.out hb (aA H0.out));have hbw1:Below w.heap.size w W1:=uY (by have:=aA H0.out; omega) (HBW.out.trans (hb.mono HBW.out.size)) hk1;obtain ⟨ts,df⟩:=a1;obtain rfl:df=[]:=hdf;obtain ⟨v,rfl,hv⟩:=Dx ts 119 hsz;replace e1:=(hv 1).symm.trans e1; replace e2:=(hv 2).symm.trans e2; replace e3:=(hv 3).symm.trans e3; replace e6:=(hv 6).symm.trans e6; replace e7:=(hv 7).symm.trans e7; replace e8:=(hv 8).symm.trans e8;clear hv hsz hA hd hQ c0 c1 f0 f1 hlt e19 q1 p1 p2 q3 hW1 hk1 hb;simp only [List.range,List.range.loop,List.map_cons,List.map_nil,e1,e2,e3,e6,e7,e8];clear e1 e2 e3 e6 e7 e8;have hgl:=aA hg1; have hrl:=aA hr1;have HG1:=Hh hg1; have HO1:=Hh ho1; have HR1:=Hh hr1; have HI1:=Hh hi1; have HBW1:=Hh hbw1; have HGB:=Hh q2;clear hg1 ho1 hr1 hi1 hbw1 q2;go_wp2_with fail
   go_loopw [7,9] (fun s7 k wr=>∃ j:Nat,j≤i.2.length∧k=.int .i64 j∧s7=.string ⟨#[]⟩∧Hid (Below W1.heap.size W1 wr)∧Hid (∀ m,m<j→i.1≠[74,80]→i.2[m]? ≠ some (4,2,0))) (fun _ k _=>i.2.length - (intOf k).toNat)
   case atStart=>exact ⟨0,Nat.zero_le _,rfl,rfl,Hh br,Hh (fun m hm=>absurd hm (Nat.not_lt_zero _))⟩
   case round =>
    obtain ⟨j,hj,rfl,rfl,HB,HM⟩:=hrel;have hgr:=aB HG1.out HB.out hgl;have q0:=aC hgr 0; have q1:=aC hgr 1; have hgw:=aA hgr;have HGR:=Hh hgr; clear hgr;have hir:=aB HI1.out HB.out (aA HI1.out);have p0:=aC hir 0; have p1:=aC hir 1; have hiw:=aA hir;clear hir;by_cases hlt:j<i.2.length
    · have hi0:(0:Int)≤(j:Int):=om
      have hi1:(j:Int)<(i.2.length:Int):=om
      by_cases hjp:i.1=[74,80]
      · have hb1:(i.1 == [74,80])=true:=by rw [hjp]; rfl
        have HJP:=Hh hjp; clear hjp;go_wp2_with fail
        first
        | (go_region_law (fail))
        | fail "no way"
        all_goals
         go_wp2_with fail
         go_roundw
         case rel =>
          repeat apply Exists.intro
          refine ⟨?_,rfl⟩;exact ⟨j+1,om,by go_num,rfl,Hh HB.out.drew,Hh (fun m _ hn=>absurd HJP.out hn)⟩
         case measure=>simp [intOf]; omega
      · have hi0:(0:Int)≤(j:Int):=om
        have hi1:(j:Int)<(i.2.length:Int):=om
        have hb1:(i.1 == [74,80])=false:=by simpa using hjp
        obtain ⟨⟨x0,x1,x2⟩,hx⟩:∃ x,i.2[j]? = some x:=⟨_,List.getElem?_eq_getElem hlt⟩;have how:=dG HO1.out HB.out;rcases how.2 with ⟨_,hz⟩ | ⟨gr,cap,cur,hv2,hgB,hblk,_⟩
        · omega
        cases hv2
        obtain ⟨a1',c1',ha1,_,hcells⟩:=(WRow.of_owns how).op;cases ha1
        obtain ⟨g',o',ho',_,_,hcells⟩:=hcells (by intro e; rw [e] at hlt; exact absurd hlt (Nat.not_lt_zero _))
        cases ho'
        obtain ⟨d0,d1,d2,_,_,_⟩:=hcells j _ hx;simp only [Nat.zero_add] at d0 d1 d2;have hgr1:=aA hblk;have HE:=Hh (fun W (hb:Below wr.heap.size wr W)=>And.intro ((hb.cell (p:=⟨w.heap.size,0,none⟩) hiw).trans p0) (And.intro ((hb.cell (p:=⟨g,1,none⟩) hgw).trans q1) (And.intro ((hb.cell (p:=⟨gr,j*3,none⟩) hgr1).trans d0) (And.intro ((hb.cell (p:=⟨gr,j*3+1,none⟩) hgr1).trans d1) ((hb.cell (p:=⟨gr,j*3+2,none⟩) hgr1).trans d2)))));have HX:=Hh hx; have HBK:=Hh hblk;clear hcells hx;have hgg:g≠gr:=fun e=>by rw [e] at HGR; have h1:=HGR.out; rw [hblk] at h1; cases h1
        have hgg2:gr≠g:=hgg.symm;by_cases hxx:x0=4∧x1=2∧x2=0
        · obtain ⟨rfl,rfl,rfl⟩:=hxx;go_wp2_with fail
          have hdr:Below wr.heap.size wr wr.drew:=Below.drew br;go_region_held3 (fun W=>W.cell? ⟨w.heap.size,0,none⟩=some (.string ⟨i.1.toArray⟩)∧W.cell? ⟨g,1,none⟩=some (.slice (some ⟨gr,0,none⟩) i.2.length c2)∧W.cell? ⟨gr,j*3,none⟩=some (.int .i64 4)∧W.cell? ⟨gr,j*3+1,none⟩=some (.int .i64 2)∧W.cell? ⟨gr,j*3+2,none⟩=some (.int .i64 0)) (first | exact (HE.out _ hdr) | exact (HE.out _ hb5)) (first | ((with_reducible refine (lQ 2 _).mono ?_); rintro e w4 ⟨rfl,hb4⟩; have hb5:=hdr.trans hb4))
          all_goals
           have HB5:=Hh hb5;obtain ⟨m0,m1,m2,m3,m4⟩:=HE.out _ hb5;have hk4:=aB HBK.out hb5 hgr1;have f0:=aH hk4 (j*3); have f1:=aH hk4 (j*3+1); have f2:=aH hk4 (j*3+2);have hg4:=aB HGR.out hb5 hgw;have z0:=aC hg4 0;have hr4:=aB (aB HR1.out HB.out hrl) hb5 (Nat.lt_of_lt_of_le hrl HB.out.size);have r0:=aC hr4 0; have r1:=aC hr4 1; have fr0:=aH hr4 0; have fr1:=aH hr4 1;have l1:=aA hk4; have l2:=aA hg4; have l3:=aA hr4;have hB1:=aA H1.out; have hBg:=HGB.out;have n1:w.heap.size+1≠gr:=om
           have n2:w.heap.size+1≠g:=om
           have n3:=n1.symm; have n4:=n2.symm;have HK4:=Hh hk4; have HG4:=Hh hg4; have HR4:=Hh hr4;clear hb5 hb4 hk4 hg4 hr4 d0 d1 d2 q0 q1 p0 p1 hB1 hBg;have hex1:¬ (9223372036854775807<1+ex.length):=om
           go_wp2_with fail
           refine bodyPost_ret (v:=.tuple #[.agg #[.string ⟨i.1.toArray⟩,.slice (some ⟨gr,0,none⟩) i.2.length c2],.string (⟨#[100]⟩++⟨ex.toArray⟩)]) (by simp [results,results88,go_sem,r0,r1]) rfl ?_;have hix:=Cx HX.out (fun m hm=>HM.out m hm hjp);have hrr:bG i ex reg=((i.1,i.2.set j (5,reg,0)),100::ex):=by
            unfold bG;rw [hix];dsimp only;rw [if_pos hjp]
           rw [hrr];have hrB:=aA H1.out;refine ⟨_,by rw [←aAS ex],⟨?_,fun e=>?_,?_⟩⟩
           · have h6:=jQ (x:=(5,reg,0)) (dG how HB5.out) hlt;have h7:=bZ (i:=0) (u:=.string ⟨i.1.toArray⟩) h6 hrB;have h8:=bZ (i:=1) (u:=.slice (some ⟨gr,0,none⟩) i.2.length c2) h7 hrB;have h9:=dF h8 (base:=w.heap.size) om;rw [List.length_set];exact h9
           · have h1:=congrArg List.length e;simp at h1
             rw [h1] at hlt;exact absurd hlt (Nat.not_lt_zero _)
           · have hb9:Below w.heap.size w w4:=(HBW1.out.trans (HB.out.mono HBW1.out.size)).trans (HB5.out.mono (Nat.le_trans HBW1.out.size HB.out.size));have hgrw:w.heap.size≤gr:=om
             exact (((((hb9.setCell hgrw _).setCell hgrw _).setCell hgrw _).setCell (Nat.le_succ _) _).setCell (Nat.le_succ _) _)
        · have hno:(x0,x1,x2)≠(4,2,0):=fun e=>hxx (by simpa using e);have hst:∀ m,m<j+1→i.1≠[74,80]→i.2[m]? ≠ some (4,2,0):=fun m hm hn=>by
           by_cases hmj:m=j
           · subst hmj;rw [HX.out];exact fun e=>hno (Option.some.inj e)
           · exact HM.out m om hn
          have HST:=Hh hst; clear hst hno;have hcase:(x0 == 4)=false∨((x0 == 4)=true∧(x1 == 2)=false)∨((x0 == 4)=true∧(x1 == 2)=true∧(x2 == 0)=false):=by
           by_cases h0:x0=4
           · by_cases h1:x1=2
             · by_cases h2:x2=0
               · exact absurd ⟨h0,h1,h2⟩ hxx
               · exact .inr (.inr ⟨by simpa using h0,by simpa using h1,by simpa using h2⟩)
             · exact .inr (.inl ⟨by simpa using h0,by simpa using h1⟩)
           · exact .inl (by simpa using h0)
          clear hxx;rcases hcase with hc0 | ⟨hc0,hc1⟩ | ⟨hc0,hc1,hc2⟩;all_goals
           go_wp2_with fail
           have hdr:Below wr.heap.size wr wr.drew:=Below.drew br;go_region_held3 (fun W=>W.cell? ⟨w.heap.size,0,none⟩=some (.string ⟨i.1.toArray⟩)∧W.cell? ⟨g,1,none⟩=some (.slice (some ⟨gr,0,none⟩) i.2.length c2)∧W.cell? ⟨gr,j*3,none⟩=some (.int .i64 x0)∧W.cell? ⟨gr,j*3+1,none⟩=some (.int .i64 x1)∧W.cell? ⟨gr,j*3+2,none⟩=some (.int .i64 x2)) (first | exact (HE.out _ hdr) | exact (HE.out _ hb5)) (first | ((with_reducible refine (lQ 2 _).mono ?_); rintro e w4 ⟨rfl,hb4⟩; have hb5:=hdr.trans hb4))
           have HB5:=Hh (HB.out.trans (hb5.mono HB.out.size));clear hb5 hb4 d0 d1 d2 q0 q1 p0 p1;go_wp2_with fail
           go_roundw
           case rel =>
            repeat apply Exists.intro
            refine ⟨?_,rfl⟩;exact ⟨j+1,om,by go_num,rfl,HB5,HST⟩
           case measure=>simp [intOf]; omega
    · have hi1:¬ (j:Int)<(i.2.length:Int):=om
      obtain rfl:j=i.2.length:=om
      have HPL:=Hh (fun m (hm:m<i.2.length)=>HM.out m hm);have hB0:=aA H0.out; have hB1:=aA H1.out;have hBg:=HGB.out;go_wp2_with fail
      clear p0 p1 q0 q1 hgw hiw hlt hj HM hi1;go_loopw [10,11,12] (fun s10 k _ wr=>∃ j:Nat,j≤i.2.length∧s10=.bool (lX reg i.2 j)∧k=.int .i64 j∧Hid (Below W0.heap.size W1 wr)∧Hid (wr.ownsRow W0.heap.size 144 3 (.slice a2 i.2.length c2) i.2.length (opc (jM reg i.2 j)))∧Hid (wr.heap[g]? = some (.cells #[.string ⟨i.1.toArray⟩,.slice a2 i.2.length c2] 53 (0,0)))) (fun _ k _ _=>i.2.length - (intOf k).toNat)
      case atStart=>exact ⟨0,Nat.zero_le _,by rw [Jf],rfl,Hh (HB.out.mono om),Hh (by rw [Jd]; exact dG HO1.out HB.out),HGR⟩
      case round =>
       obtain ⟨j,hj,rfl,rfl,HBX,HO,HGG⟩:=hrel;have q1:=aC HGG.out 1; have hgw:=aA HGG.out;have hL:=tE reg i.2 j;by_cases hlt:j<i.2.length
       · have hi0:(0:Int)≤(j:Int):=om
         have hi1:(j:Int)<(i.2.length:Int):=om
         obtain ⟨⟨x0,x1,x2⟩,hx⟩:∃ x,i.2[j]? = some x:=⟨_,List.getElem?_eq_getElem hlt⟩;have how:=HO.out;rcases how.2 with ⟨_,hz⟩ | ⟨gr,cap,cur,hv2,hgB,hblk,_⟩
         · omega
         cases hv2
         rw [←hL] at how;obtain ⟨a1',c1',ha1,_,hcells⟩:=(WRow.of_owns how).op;cases ha1
         obtain ⟨g',o',ho',_,_,hcells⟩:=hcells (by intro e; rw [e] at hL; simp at hL; omega);cases ho'
         obtain ⟨d0,d1,d2,_,_,_⟩:=hcells j _ (mG hx);simp only [Nat.zero_add] at d0 d1 d2;have hgr1:=aA hblk;have hgg:g≠gr:=fun e=>by rw [e] at HGG; have h1:=HGG.out; rw [hblk] at h1; cases h1
         have hgg2:gr≠g:=hgg.symm;have HX:=Hh hx; have HBK:=Hh hblk;clear hx hcells how;obtain ⟨X,hX⟩:∃ X:Op3,(cB reg (x0,x1,x2)).getD (x0,x1,x2)=X:=⟨_,rfl⟩;have HXX:=Hh hX; clear hX;go_upto_block 4 with fail
         generalize hWA:(wr.alloc _)=WA;have hbA:Below wr.heap.size wr WA:=by rw [←hWA]; exact bl
         have hnA:WA.heap[wr.heap.size]? = some (.cells #[.int .i64 x0,.int .i64 x1,.int .i64 x2] 144 (0,0)):=by rw [←hWA]; exact aF _ _
         have HRA:Hid (Rd2 W0.heap.size W1 g gr wr.heap.size i.2.length c2 i.1 (jM reg i.2 j) (x0,x1,x2) WA):=Hh ⟨HBX.out.trans (hbA.mono (Nat.le_trans om HBX.out.size)),dG HO.out hbA,aB HGG.out hbA hgw,hnA⟩;have hW01:W0.heap.size≤W1.heap.size:=om
         have hob:wr.heap.size≠gr:=om
         have hob2:gr≠wr.heap.size:=om
         have hob3:g≠wr.heap.size:=om
         clear hWA hbA hnA d0 d1 d2 q1;go_cut [95] from 61 to 95 (fun _ wx=>Hid (Rd2 W0.heap.size W1 g gr wr.heap.size i.2.length c2 i.1 ((jM reg i.2 j).set j X) (x0,x1,x2) wx))
         case first =>
          obtain ⟨⟨d0,d1,d2⟩,⟨f0,f1,f2⟩,hgl2⟩:=HRA.out.cells (mG HX.out) hL;obtain ⟨q1,n0,n1,n2,l1,l2⟩:=HRA.out.boxc;by_cases hA:x0=3∧x1=2∧x2=0
          · obtain ⟨rfl,rfl,rfl⟩:=hA;go_wp2_with fail
            go_meet
            case rel =>
             have hXA:X=(3,reg,0):=by rw [←HXX.out]; simp [cB]
             rw [hXA];exact Hh (HRA.out.set hgB hgg hob (by rw [cG,hL]; omega) (yL (mG HX.out)))
          by_cases hC:x0=1∧(x1=4∨x1=5)
          · obtain ⟨rfl,h45⟩:=hC;obtain rfl:x2=0:=HWF.out _ (List.mem_of_getElem? HX.out) (.inl rfl);have hx45:4≤x1∧x1≤5:=om
            have hXA:X=(2,2*(reg - 5)+x1 - 4,0):=by
             rw [←HXX.out];rcases h45 with rfl | rfl<;>simp [cB]
            have HXA:=Hh hXA; clear hXA;have hb45:((x1 == 4)=true)∨((x1 == 4)=false∧(x1 == 5)=true):=by rcases h45 with rfl | rfl<;>simp
            obtain ⟨hx4,hx5⟩:=hx45;clear h45;rcases hb45 with e4 | ⟨e4,e5⟩;all_goals
             go_wp2_with fail
             go_meet
             case rel =>
              rw [HXA.out];exact Hh (HRA.out.setO hgB hgg hob (by rw [hL]; omega))
          have hno:(x0 == 3)=false∨((x0 == 3)=true∧(x1 == 2)=false):=by
           by_cases h3:x0=3
           · refine .inr ⟨by simpa using h3,?_⟩
             have:x2=0:=HWF.out _ (List.mem_of_getElem? HX.out) (.inr (.inl h3))
             simp; omega
           · exact .inl (by simpa using h3)
          have hno1:(x0 == 1)=false∨((x0 == 1)=true∧(x1 == 4)=false∧(x1 == 5)=false):=by
           by_cases h3:x0=1
           · exact .inr ⟨by simpa using h3,by simp; omega,by simp; omega⟩
           · exact .inl (by simpa using h3)
          by_cases hB:x0=4∧x1=2
          · obtain ⟨rfl,rfl⟩:=hB;obtain rfl:x2=0:=HWF.out _ (List.mem_of_getElem? HX.out) (.inr (.inr rfl));clear hno hno1 hA hC;go_wp2_with fail
            (with_reducible refine (lQ 2 _).mono ?_);rintro e w4 ⟨rfl,hb4⟩;have HR4:=Hh (HRA.out.below hW01 hb4);clear hb4 d0 d1 d2 f0 f1 f2 hgl2 q1 n0 n1 n2 l1 l2;obtain ⟨⟨d0,d1,d2⟩,⟨f0,f1,f2⟩,hgl2⟩:=HR4.out.cells (mG HX.out) hL;obtain ⟨q1,n0,n1,n2,l1,l2⟩:=HR4.out.boxc;go_wp2_with fail
            go_meet
            case rel =>
             have hXA:X=(4,reg,0):=by rw [←HXX.out]; simp [cB]
             rw [hXA];exact Hh (HR4.out.set hgB hgg hob (by rw [cG,hL]; omega) (yL (mG HX.out)))
          · have hXA:X=(x0,x1,x2):=by
             rw [←HXX.out];have h0:cB reg (x0,x1,x2)=none:=by
              unfold cB;rw [if_neg (by simp; omega),if_neg (by simpa using hC)]
             rw [h0]; rfl
            have HXA:=Hh hXA; clear hXA;have hnb:(x0 == 4)=false∨((x0 == 4)=true∧(x1 == 2)=false):=by
             by_cases h3:x0=4
             · exact .inr ⟨by simpa using h3,by simp; omega⟩
             · exact .inl (by simpa using h3)
            have hall:((x0 == 3)=false∧(x0 == 1)=false∧(x0 == 4)=false)∨(x0=3∧(x1 == 2)=false)∨(x0=1∧(x1 == 4)=false∧(x1 == 5)=false)∨(x0=4∧(x1 == 2)=false):=by
             simp only [beq_iff_eq,beq_eq_false_iff_ne,ne_eq] at hno hno1 hnb ⊢;omega
            clear hno hno1 hnb hA hB hC;rcases hall with ⟨e3,e1,e4⟩ | ⟨rfl,e2⟩ | ⟨rfl,e4,e5⟩ | ⟨rfl,e2⟩;all_goals
             go_wp2_with fail
             (with_reducible refine (lQ 2 _).mono ?_);rintro e w4 ⟨rfl,hb4⟩;have HR4:=Hh (HRA.out.below hW01 hb4);clear hb4;go_wp2_with fail
             go_meet
             case rel =>
              rw [HXA.out];have hs:=rV (mG (reg:=reg) HX.out);rw [hs];exact HR4
         case rest =>
          have hL2:((jM reg i.2 j).set j X).length=i.2.length:=by rw [List.length_set,hL]
          have hXj:((jM reg i.2 j).set j X)[j]? = some X:=List.getElem?_set_self (by rw [hL]; omega);have HS:=Hh (show (cB reg (x0,x1,x2)).isSome=decide (X≠(x0,x1,x2)) by rw [Px hreg,HXX.out])
          have HSX:=Hh (show opc (jM reg i.2 (j+1))=opc ((jM reg i.2 j).set j X) by rw [Je HX.out,HXX.out])
          clear HXX;obtain ⟨X0,X1,X2⟩:=X;have HE:=Hh (fun W (hb:Below wc.heap.size wc W)=>And.intro (hcut.out.below hW01 hb).boxc.1 (And.intro ((hcut.out.below hW01 hb).cells hXj hL2).1.1 (And.intro ((hcut.out.below hW01 hb).cells hXj hL2).1.2.1 (And.intro ((hcut.out.below hW01 hb).cells hXj hL2).1.2.2 (And.intro (hcut.out.below hW01 hb).boxc.2.1 (And.intro (hcut.out.below hW01 hb).boxc.2.2.1 (hcut.out.below hW01 hb).boxc.2.2.2.1))))));have hdr:Below wc.heap.size wc wc.drew:=Below.drew br;have HRD:=Hh (hcut.out.below hW01 hdr);obtain ⟨d1',⟨_,_,_⟩,hgl2⟩:=hcut.out.cells hXj hL2;obtain ⟨q1,n0,n1,n2,l1,l2⟩:=hcut.out.boxc;obtain ⟨d0,d1,d2⟩:=d1';clear hXj hL2;cases hc:lX reg i.2 j
          · by_cases hXe:X0=x0∧X1=x1∧X2=x2
            · obtain ⟨rfl,rfl,rfl⟩:=hXe;have HSN:=Hh (show lX reg i.2 (j+1)=false by rw [pW HX.out,hc,HS.out]; simp)
              clear hc HS;go_wp2_with fail
              go_region_held3 (fun W=>W.cell? ⟨g,1,none⟩=some (.slice (some ⟨gr,0,none⟩) i.2.length c2)∧W.cell? ⟨gr,j*3,none⟩=some (.int .i64 X0)∧W.cell? ⟨gr,j*3+1,none⟩=some (.int .i64 X1)∧W.cell? ⟨gr,j*3+2,none⟩=some (.int .i64 X2)∧W.cell? ⟨wr.heap.size,0,none⟩=some (.int .i64 X0)∧W.cell? ⟨wr.heap.size,1,none⟩=some (.int .i64 X1)∧W.cell? ⟨wr.heap.size,2,none⟩=some (.int .i64 X2)) (first | exact (HE.out _ hdr)) (first | (fail))
              go_wp2_with fail
              go_roundw
              case rel =>
               exact rP
              case measure=>simp [intOf]; omega
            · have HSN:=Hh (show lX reg i.2 (j+1)=true by rw [pW HX.out,hc,HS.out]; simp; omega)
              clear hc HS;have hcs:X0≠x0∨(X0=x0∧X1≠x1)∨(X0=x0∧X1=x1∧X2≠x2):=om
              clear hXe;rcases hcs with e0 | ⟨rfl,e0⟩ | ⟨rfl,rfl,e0⟩
              · have hbn:(X0 == x0)=false:=by simpa using e0
                go_wp2_with fail
                go_region_held3 (fun W=>W.cell? ⟨g,1,none⟩=some (.slice (some ⟨gr,0,none⟩) i.2.length c2)∧W.cell? ⟨gr,j*3,none⟩=some (.int .i64 X0)∧W.cell? ⟨gr,j*3+1,none⟩=some (.int .i64 X1)∧W.cell? ⟨gr,j*3+2,none⟩=some (.int .i64 X2)∧W.cell? ⟨wr.heap.size,0,none⟩=some (.int .i64 x0)∧W.cell? ⟨wr.heap.size,1,none⟩=some (.int .i64 x1)∧W.cell? ⟨wr.heap.size,2,none⟩=some (.int .i64 x2)) (first | exact (HE.out _ hdr)) (first | (fail))
                go_wp2_with fail
                go_roundw
                case rel =>
                 exact rP
                case measure=>simp [intOf]; omega
              · have hbn:(X1 == x1)=false:=by simpa using e0
                go_wp2_with fail
                go_region_held3 (fun W=>W.cell? ⟨g,1,none⟩=some (.slice (some ⟨gr,0,none⟩) i.2.length c2)∧W.cell? ⟨gr,j*3,none⟩=some (.int .i64 X0)∧W.cell? ⟨gr,j*3+1,none⟩=some (.int .i64 X1)∧W.cell? ⟨gr,j*3+2,none⟩=some (.int .i64 X2)∧W.cell? ⟨wr.heap.size,0,none⟩=some (.int .i64 X0)∧W.cell? ⟨wr.heap.size,1,none⟩=some (.int .i64 x1)∧W.cell? ⟨wr.heap.size,2,none⟩=some (.int .i64 x2)) (first | exact (HE.out _ hdr)) (first | (fail))
                go_wp2_with fail
                go_roundw
                case rel =>
                 exact rP
                case measure=>simp [intOf]; omega
              · have hbn:(X2 == x2)=false:=by simpa using e0
                go_wp2_with fail
                go_region_held3 (fun W=>W.cell? ⟨g,1,none⟩=some (.slice (some ⟨gr,0,none⟩) i.2.length c2)∧W.cell? ⟨gr,j*3,none⟩=some (.int .i64 X0)∧W.cell? ⟨gr,j*3+1,none⟩=some (.int .i64 X1)∧W.cell? ⟨gr,j*3+2,none⟩=some (.int .i64 X2)∧W.cell? ⟨wr.heap.size,0,none⟩=some (.int .i64 X0)∧W.cell? ⟨wr.heap.size,1,none⟩=some (.int .i64 X1)∧W.cell? ⟨wr.heap.size,2,none⟩=some (.int .i64 x2)) (first | exact (HE.out _ hdr)) (first | (fail))
                go_wp2_with fail
                go_roundw
                case rel =>
                 exact rP
                case measure=>simp [intOf]; omega
          · have HSN:=Hh (show lX reg i.2 (j+1)=true by rw [pW HX.out,hc]; simp)
            clear hc HS;go_wp2_with fail
            first
            | (go_region_law (fail))
            | fail "no way"
            all_goals
             go_wp2_with fail
             go_roundw
             case rel =>
              exact rP
             case measure=>simp [intOf]; omega
       · have hi1:¬ (j:Int)<(i.2.length:Int):=om
         obtain rfl:j=i.2.length:=om
         have HOW:=HO;have hrw:=aB HR1.out HBX.out hB1;have hiw:=aB HI1.out HBX.out hB0;have HBW9:=Hh (HBW1.out.trans (HBX.out.mono (show w.heap.size≤W0.heap.size by omega)));cases hc:lX reg i.2 i.2.length
         · have HRN:=Hh (Mf i.1 i.2 ex reg hc);have r0:=aC hrw 0; have r1:=aC hrw 1; have fr0:=aH hrw 0; have fr1:=aH hrw 1; have l3:=aA hrw;clear hrw hiw hc;go_wp2_with fail
           first
           | (go_region_law (fail))
           | fail "no way"
           all_goals
            go_wp2_with fail
            refine bodyPost_ret (v:=.tuple #[.agg #[.string ⟨#[]⟩,.slice none 0 0],.string ⟨#[]⟩]) (by simp [results,results88,go_sem,r0,r1]) rfl ?_;rw [show bG i ex reg=(([],[]),[]) from HRN.out]
            exact ⟨_,rfl,iL (by repeat (first | exact HBW9.out | refine Below.drew ?_ | refine Below.setCell ?_ (Nat.le_succ _) _))⟩
         · have HE2:=Hh (fun W (hb:Below wr.heap.size wr W)=>And.intro (aC (aB hiw hb (aA hiw)) 0) (aC (aB hiw hb (aA hiw)) 1));obtain ⟨R,hR⟩:∃ R,decide ((⟨i.1.toArray⟩:ByteArray)=⟨#[69,88]⟩∧i.2=[(3,1,0),(3,2,0)])=R:=⟨_,rfl⟩;have HSM:Hid (∀ (W:World) (g3:Nat),Below w.heap.size w W→W.heap[g3]? = some (.cells (opc [((3:Int),(1:Int),(0:Int)),(3,2,0)]).toArray 144 (0,0))→Calls prog 50 #[.agg #[.string ⟨i.1.toArray⟩,.slice a i.2.length c],.agg #[.string ⟨#[69,88]⟩,.slice (some ⟨g3,0,none⟩) 2 2]] W fun e w'=>e=.returned (.bool R)∧Below W.heap.size W w'):=Hh (fun W g3 hb hg=>hR ▸ Bh ⟨i.1.toArray⟩ ⟨#[69,88]⟩ _ _ i.2 [(3,1,0),(3,2,0)] W (HV.out.below hb) (aAt hg) om dc);have HR:=Hh hR; clear hR;have HRW:=Hh hrw;have hdr:Below wr.heap.size wr wr.drew:=Below.drew br;have HC:=Hh hc;clear hrw hiw hc;go_wp2_with fail
           go_region_held3 (fun W=>W.cell? ⟨w.heap.size,0,none⟩=some (.string ⟨i.1.toArray⟩)∧W.cell? ⟨w.heap.size,1,none⟩=some (.slice a i.2.length c)) (first | exact (HE2.out _ hdr) | exact (HE2.out _ k1) | exact (HE2.out _ k2) | exact (HE2.out _ k3) | exact (HE2.out _ k4) | exact (HE2.out _ k5)) (first
            | ((with_reducible refine (Bj 1 3 (3,1,0) dc _).mono ?_); rintro e w1 ⟨rfl,hb1⟩; have k1:Below wr.heap.size wr w1:=hdr.trans hb1)
            | ((with_reducible refine (Bj 2 3 (3,2,0) dc _).mono ?_); rintro e w2 ⟨rfl,hb2⟩; have k2:Below wr.heap.size wr w2:=k1.trans (hb2.mono k1.size))
            | ((with_reducible refine (eY (3,1,0) (3,2,0) _).mono ?_); rintro e w3 ⟨g3,rfl,hgg3,hgb3,hb3⟩; have k3:Below wr.heap.size wr w3:=k2.trans (hb3.mono k2.size))
            | ((with_reducible refine (bH _ _ (.inr ⟨_,_,_,rfl⟩) _).mono ?_); rintro e w4 ⟨rfl,hb4⟩; have k4:Below wr.heap.size wr w4:=k3.trans (hb4.mono k3.size); have HG4:=Hh (aB hgb3 hb4 (aA hgb3)))
            | ((with_reducible refine (HSM.out _ g3 (HBW9.out.trans (k4.mono HBW9.out.size)) HG4.out).mono ?_); rintro e w5 ⟨rfl,hb5⟩; have k5:Below wr.heap.size wr w5:=k4.trans (hb5.mono k4.size)))
           all_goals
            have K5:=Hh k5;have hr5:=aB HRW.out k5 (aA HRW.out);have hg5:=aB HGG.out k5 (aA HGG.out);clear hb1 k1 hb2 k2 hgg3 hgb3 hb3 k3 hb4 k4 hb5 k5 hdr q1;have r0:=aC hr5 0; have r1:=aC hr5 1; have fr0:=aH hr5 0; have fr1:=aH hr5 1; have l3:=aA hr5;have z0:=aC hg5 0; have z1:=aC hg5 1; have l4:=aA hg5;have HOW5:=Hh (dG HOW.out K5.out);clear hr5 hg5;cases R
            · have HRN:=Hh (Rp i.1 i.2 ex reg HC.out (fun e=>by have h1:=HR.out; have h2:=congrArg Prod.fst e; have h3:=congrArg Prod.snd e; simp only at h2 h3; rw [h2,h3] at h1; simp at h1) HPL.out);go_wp2_with fail
              refine bodyPost_ret (v:=.tuple #[.agg #[.string ⟨i.1.toArray⟩,.slice a2 i.2.length c2],.string ⟨ex.toArray⟩]) (by simp [results,results88,go_sem,r0,r1]) rfl ?_;rw [show bG i ex reg=_ from HRN.out]
              have hrB:=aA H1.out;refine ⟨_,rfl,⟨?_,fun e=>?_,?_⟩⟩
              · have h7:=bZ (i:=0) (u:=.string ⟨i.1.toArray⟩) HOW5.out hrB;have h8:=bZ (i:=1) (u:=.slice a2 i.2.length c2) h7 hrB;have h9:=dF h8 (base:=w.heap.size) om;show World.ownsRow _ _ _ _ _ (jM reg i.2 i.2.length).length _
                rw [tE];exact h9
              · exfalso
                have h1:=congrArg List.length (show jM reg i.2 i.2.length=[] from e);rw [tE] at h1;have h2:=HC.out;rw [List.length_eq_zero_iff.1 h1] at h2;simp [lX] at h2
              · have hb9:=HBW9.out.trans (K5.out.mono HBW9.out.size);repeat (first | exact hb9 | refine Below.drew ?_ | refine Below.setCell ?_ (Nat.le_succ _) _)
            · have HRN:Hid (bG i ex reg=(([],[]),[])):=Hh (by
               have h1:=of_decide_eq_true HR.out;have h2:i.1=[69,88]:=by
                have:=congrArg (fun b:ByteArray=>b.data.toList) h1.1
                simpa using this
               have h3:i=([69,88],[(3,1,0),(3,2,0)]):=Prod.ext h2 h1.2;rw [h3];exact Xc ex reg)
              go_wp2_with fail
              refine bodyPost_ret (v:=.tuple #[.agg #[.string ⟨#[]⟩,.slice none 0 0],.string ⟨#[]⟩]) (by simp [results,results88,go_sem,r0,r1]) rfl ?_;rw [show bG i ex reg=(([],[]),[]) from HRN.out]
              have hb9:=HBW9.out.trans (K5.out.mono HBW9.out.size);exact ⟨_,rfl,iL (by repeat (first | exact hb9 | refine Below.drew ?_ | refine Below.setCell ?_ (Nat.le_succ _) _))⟩
 · intro f hf hs;have f7:=hs _ rfl ⟨7,.data⟩ sm rfl;have f6:=hs _ rfl ⟨6,.data⟩ sm rfl;have f5:=hf 6 _ rfl f6 ⟨5,.data⟩ sm rfl;have f1:=hf 6 _ rfl f6 ⟨1,.data⟩ sm rfl;have f0:=hf 1 _ rfl f1 ⟨0,.data⟩ sm rfl;have f2:=hf 5 _ rfl f5 ⟨2,.data⟩ sm rfl;have f4:=hf 5 _ rfl f5 ⟨4,.data⟩ sm rfl;have f3:=hf 4 _ rfl f4 ⟨3,.data⟩ sm rfl;intro k hk hk8;have hk:k<9:=hk;rcases (by omega:k=0∨k=1∨k=2∨k=3∨k=4∨k=5∨k=6∨k=7) with rfl | rfl | rfl | rfl | rfl | rfl | rfl | rfl
   · exact f0
   · exact f1
   · exact f2
   · exact f3
   · exact f4
   · exact f5
   · exact f6
   · exact f7
theorem pC {p:Prop} (h:p:=by
 have hb9:=HB3.out;with_reducible repeat (refine Below.setCell ?_ (by first|exact Nat.le_refl _|exact Nat.le_succ _) _)
 exact hb9):p:=h
theorem Kh {p:Prop} (h:p:=by
 rw[←hW0]
 have:=aF (w.alloc (.cells #[.int .i64 0,.int .u8 0,.string ⟨#[]⟩,.slice none 0 0,.string ⟨#[]⟩,.bool false] 107)) (.cells #[.int .i64 3,.int .u8 op,.string ⟨#[]⟩,.slice none 0 0,.string ⟨#[]⟩,.bool false] 107)
 rwa [World.size_alloc] at this):p:=h
theorem Kf {p:Prop} (h:p:=by
 have hr:=HR1.out;refine dF (B:=W0.heap.size) ?_ om;with_reducible repeat (refine bZ ?_ (by first|exact hr|(show w.heap.size<W0.heap.size;omega)))
 exact HO.out):p:=h
theorem Zv (op:Int) (i j:aY) (ex ex2:List UInt8) (hc:∀ W,Calls prog 84 #[.int .u8 op] W (aU (i,ex) W))
 (hx:∀ v W,Row W v i.2.length (opc i.2)→(i.2=[]→v=.slice none 0 0)→Calls prog 88 #[.agg #[.string ⟨i.1.toArray⟩,v],.string ⟨ex.toArray⟩,.int .i64 5] W (aU (j,ex2) W)) (_hb0:0≤op) (_hb1:op≤255) (hcb:(op == 203)=false) (he:j.1.isEmpty=false) (w:World):Calls prog 53 #[.int .i64 3,.int .u8 op] w (fun e w'=>∃ v,e=.returned (.tuple #[.agg #[.int .i64 3,.int .u8 op,.string ⟨j.1.toArray⟩,v,.string ⟨ex2.toArray⟩,.bool false],.int .i64 1])∧w'.ownsRow w.heap.size 144 3 v (j.2).length (opc (j.2))∧Below w.heap.size w w'):=by
 have HC:=Hh hc;have HX:=Hh hx;clear hc hx;go_enter func53,ntmps53
 go_wp2_with fail
 generalize hW0:((w.alloc _).alloc _)=W0;have h0:W0.heap[w.heap.size]? = some (.cells #[.int .i64 0,.int .u8 0,.string ⟨#[]⟩,.slice none 0 0,.string ⟨#[]⟩,.bool false] 107 (0,0)):=by rw[←hW0];exact aE (aF _ _)
 have h1:W0.heap[w.heap.size+1]? = some (.cells #[.int .i64 3,.int .u8 op,.string ⟨#[]⟩,.slice none 0 0,.string ⟨#[]⟩,.bool false] 107 (0,0)):=by
  exact Kh
 have HBW:=Hh (show Below w.heap.size w W0 by rw[←hW0];exact aQ (aQ br))
 have H0:=Hh h0;have H1:=Hh h1;clear hW0 h0 h1;(with_reducible refine (HC.out _).mono ?_);rintro e w2 ⟨v,rfl,ho⟩;obtain⟨a',n',c',rfl⟩:=ho.slice;obtain⟨ho1,ho2,ho3⟩:=ho;have HOA:=Hh ho1;have HOB:=Hh ho2;have HOC:=Hh ho3;clear ho1 ho2 ho3;go_wp2_with fail
 (with_reducible refine (HX.out _ _ (Row.of_owns (dG HOA.out (br.alloc lr _))) HOB.out).mono ?_);rintro e w3 ⟨v,rfl,ho⟩;obtain⟨a,n,c,rfl⟩:=ho.slice;have hb3:Below W0.heap.size W0 w3:=dC HOC.out ho.2.2;have h0:=aB H0.out hb3 (aA H0.out);have h1:=aB H1.out hb3 (aA H1.out);have HO:=Hh (dF ho.1 (Nat.le_trans HOC.out.size (by rw[World.size_alloc];omega)));have HB3:=Hh (HBW.out.trans (hb3.mono HBW.out.size));obtain⟨⟨p0,p1,p2,p3,p4,p5⟩,f0,f1,f2,f3,f4,f5⟩:=bB h0;obtain⟨⟨q0,q1,q2,q3,q4,q5⟩,g0,g1,g2,g3,g4,g5⟩:=bB h1;have hl0:=aA h0;have hl1:=aA h1;have HR1:=Hh (aA H1.out);clear ho h0 h1 hb3;go_wp2_with fail
 refine bodyPost_ret (v:=.tuple #[.agg #[.int .i64 3,.int .u8 op,.string ⟨j.1.toArray⟩,.slice a n c,.string ⟨ex2.toArray⟩,.bool false],.int .i64 1]) (by simp[results,results53,go_sem,p0,p1,p2,p3,p4,p5]) rfl ⟨_,rfl,?_,?_⟩
 · exact Kf
 · exact pC
theorem Zu (op:Int) (i j:aY) (ex ex2:List UInt8) (hc:∀ W,Calls prog 84 #[.int .u8 op] W (aU (i,ex) W))
 (hx:∀ v W,Row W v i.2.length (opc i.2)→(i.2=[]→v=.slice none 0 0)→Calls prog 88 #[.agg #[.string ⟨i.1.toArray⟩,v],.string ⟨ex.toArray⟩,.int .i64 5] W (aU (j,ex2) W)) (_hb0:0≤op) (_hb1:op≤255) (hcb:(op == 203)=false) (he:j.1.isEmpty=true) (w:World):Calls prog 53 #[.int .i64 3,.int .u8 op] w (fun e w'=>∃ v,e=.returned (.tuple #[.agg #[.int .i64 0,.int .u8 0,.string ⟨#[]⟩,v,.string ⟨#[]⟩,.bool false],.int .i64 0])∧w'.ownsRow w.heap.size 144 3 v (([]:List Op3)).length (opc (([]:List Op3)))∧Below w.heap.size w w'):=by
 have HC:=Hh hc;have HX:=Hh hx;clear hc hx;go_enter func53,ntmps53
 go_wp2_with fail
 generalize hW0:((w.alloc _).alloc _)=W0;have h0:W0.heap[w.heap.size]? = some (.cells #[.int .i64 0,.int .u8 0,.string ⟨#[]⟩,.slice none 0 0,.string ⟨#[]⟩,.bool false] 107 (0,0)):=by rw[←hW0];exact aE (aF _ _)
 have h1:W0.heap[w.heap.size+1]? = some (.cells #[.int .i64 3,.int .u8 op,.string ⟨#[]⟩,.slice none 0 0,.string ⟨#[]⟩,.bool false] 107 (0,0)):=by
  exact Kh
 have HBW:=Hh (show Below w.heap.size w W0 by rw[←hW0];exact aQ (aQ br))
 have H0:=Hh h0;have H1:=Hh h1;clear hW0 h0 h1;(with_reducible refine (HC.out _).mono ?_);rintro e w2 ⟨v,rfl,ho⟩;obtain⟨a',n',c',rfl⟩:=ho.slice;obtain⟨ho1,ho2,ho3⟩:=ho;have HOA:=Hh ho1;have HOB:=Hh ho2;have HOC:=Hh ho3;clear ho1 ho2 ho3;go_wp2_with fail
 (with_reducible refine (HX.out _ _ (Row.of_owns (dG HOA.out (br.alloc lr _))) HOB.out).mono ?_);rintro e w3 ⟨v,rfl,ho⟩;obtain⟨a,n,c,rfl⟩:=ho.slice;have hb3:Below W0.heap.size W0 w3:=dC HOC.out ho.2.2;have h0:=aB H0.out hb3 (aA H0.out);have h1:=aB H1.out hb3 (aA H1.out);have HO:=Hh (dF ho.1 (Nat.le_trans HOC.out.size (by rw[World.size_alloc];omega)));have HB3:=Hh (HBW.out.trans (hb3.mono HBW.out.size));obtain⟨⟨p0,p1,p2,p3,p4,p5⟩,f0,f1,f2,f3,f4,f5⟩:=bB h0;obtain⟨⟨q0,q1,q2,q3,q4,q5⟩,g0,g1,g2,g3,g4,g5⟩:=bB h1;have hl0:=aA h0;have hl1:=aA h1;have HR1:=Hh (aA H1.out);clear ho h0 h1 hb3;go_wp2_with fail
 refine bodyPost_ret (v:=.tuple #[.agg #[.int .i64 0,.int .u8 0,.string ⟨#[]⟩,.slice none 0 0,.string ⟨#[]⟩,.bool false],.int .i64 0]) (by simp[results,results53,go_sem,p0,p1,p2,p3,p4,p5]) rfl ⟨_,rfl,?_,?_⟩
 · exact World.ownsRow_nil _ _ _ _
 · exact pC
theorem Zw (w:World):Calls prog 53 #[.int .i64 3,.int .u8 203] w (fun e w'=>∃ v,e=.returned (.tuple #[.agg #[.int .i64 0,.int .u8 0,.string ⟨#[]⟩,v,.string ⟨#[]⟩,.bool false],.int .i64 2])∧w'.ownsRow w.heap.size 144 3 v ([]:List Op3).length (opc ([]:List Op3))∧Below w.heap.size w w'):=by
 go_enter func53,ntmps53
 go_wp2_with fail
 generalize hW0:((w.alloc _).alloc _)=W0;have h0:W0.heap[w.heap.size]? = some (.cells #[.int .i64 0,.int .u8 0,.string ⟨#[]⟩,.slice none 0 0,.string ⟨#[]⟩,.bool false] 107 (0,0)):=by rw[←hW0];exact aE (aF _ _)
 have h1:W0.heap[w.heap.size+1]? = some (.cells #[.int .i64 3,.int .u8 203,.string ⟨#[]⟩,.slice none 0 0,.string ⟨#[]⟩,.bool false] 107 (0,0)):=by
  rw[←hW0]
  have:=aF (w.alloc (.cells #[.int .i64 0,.int .u8 0,.string ⟨#[]⟩,.slice none 0 0,.string ⟨#[]⟩,.bool false] 107)) (.cells #[.int .i64 3,.int .u8 203,.string ⟨#[]⟩,.slice none 0 0,.string ⟨#[]⟩,.bool false] 107)
  rwa [World.size_alloc] at this
 have HBW:=Hh (show Below w.heap.size w W0 by rw[←hW0];exact aQ (aQ br))
 have H0:=Hh h0;have H1:=Hh h1;clear hW0 h0 h1;have HB3:=HBW;obtain⟨⟨p0,p1,p2,p3,p4,p5⟩,f0,f1,f2,f3,f4,f5⟩:=bB H0.out;have hl0:=aA H0.out;have hl1:=aA H1.out;go_wp2_with fail
 refine bodyPost_ret (v:=.tuple #[.agg #[.int .i64 0,.int .u8 0,.string ⟨#[]⟩,.slice none 0 0,.string ⟨#[]⟩,.bool false],.int .i64 2]) (by simp[results,results53,go_sem,p0,p1,p2,p3,p4,p5]) rfl ⟨_,rfl,?_,?_⟩
 · exact World.ownsRow_nil _ _ _ _
 · exact pC
theorem Kg {p:Prop} (h:p:=by
 rw[←hW0]
 have:=aF (w.alloc (.cells #[.int .i64 0,.int .u8 0,.string ⟨#[]⟩,.slice none 0 0,.string ⟨#[]⟩,.bool false] 107)) (.cells #[.int .i64 4,.int .u8 op,.string ⟨#[]⟩,.slice none 0 0,.string ⟨#[]⟩,.bool false] 107)
 rwa [World.size_alloc] at this):p:=h
theorem Zs (op:Int) (i j:aY) (ex ex2:List UInt8) (hc:∀ W,Calls prog 84 #[.int .u8 op] W (aU (i,ex) W))
 (hx:∀ v W,Row W v i.2.length (opc i.2)→(i.2=[]→v=.slice none 0 0)→Calls prog 88 #[.agg #[.string ⟨i.1.toArray⟩,v],.string ⟨ex.toArray⟩,.int .i64 6] W (aU (j,ex2) W)) (_hb0:0≤op) (_hb1:op≤255) (hcb:(op == 203)=false) (he:j.1.isEmpty=false) (w:World):Calls prog 53 #[.int .i64 4,.int .u8 op] w (fun e w'=>∃ v,e=.returned (.tuple #[.agg #[.int .i64 4,.int .u8 op,.string ⟨j.1.toArray⟩,v,.string ⟨ex2.toArray⟩,.bool false],.int .i64 1])∧w'.ownsRow w.heap.size 144 3 v (j.2).length (opc (j.2))∧Below w.heap.size w w'):=by
 have HC:=Hh hc;have HX:=Hh hx;clear hc hx;go_enter func53,ntmps53
 go_wp2_with fail
 generalize hW0:((w.alloc _).alloc _)=W0;have h0:W0.heap[w.heap.size]? = some (.cells #[.int .i64 0,.int .u8 0,.string ⟨#[]⟩,.slice none 0 0,.string ⟨#[]⟩,.bool false] 107 (0,0)):=by rw[←hW0];exact aE (aF _ _)
 have h1:W0.heap[w.heap.size+1]? = some (.cells #[.int .i64 4,.int .u8 op,.string ⟨#[]⟩,.slice none 0 0,.string ⟨#[]⟩,.bool false] 107 (0,0)):=by
  exact Kg
 have HBW:=Hh (show Below w.heap.size w W0 by rw[←hW0];exact aQ (aQ br))
 have H0:=Hh h0;have H1:=Hh h1;clear hW0 h0 h1;(with_reducible refine (HC.out _).mono ?_);rintro e w2 ⟨v,rfl,ho⟩;obtain⟨a',n',c',rfl⟩:=ho.slice;obtain⟨ho1,ho2,ho3⟩:=ho;have HOA:=Hh ho1;have HOB:=Hh ho2;have HOC:=Hh ho3;clear ho1 ho2 ho3;go_wp2_with fail
 (with_reducible refine (HX.out _ _ (Row.of_owns (dG HOA.out (br.alloc lr _))) HOB.out).mono ?_);rintro e w3 ⟨v,rfl,ho⟩;obtain⟨a,n,c,rfl⟩:=ho.slice;have hb3:Below W0.heap.size W0 w3:=dC HOC.out ho.2.2;have h0:=aB H0.out hb3 (aA H0.out);have h1:=aB H1.out hb3 (aA H1.out);have HO:=Hh (dF ho.1 (Nat.le_trans HOC.out.size (by rw[World.size_alloc];omega)));have HB3:=Hh (HBW.out.trans (hb3.mono HBW.out.size));obtain⟨⟨p0,p1,p2,p3,p4,p5⟩,f0,f1,f2,f3,f4,f5⟩:=bB h0;obtain⟨⟨q0,q1,q2,q3,q4,q5⟩,g0,g1,g2,g3,g4,g5⟩:=bB h1;have hl0:=aA h0;have hl1:=aA h1;have HR1:=Hh (aA H1.out);clear ho h0 h1 hb3;go_wp2_with fail
 refine bodyPost_ret (v:=.tuple #[.agg #[.int .i64 4,.int .u8 op,.string ⟨j.1.toArray⟩,.slice a n c,.string ⟨ex2.toArray⟩,.bool false],.int .i64 1]) (by simp[results,results53,go_sem,p0,p1,p2,p3,p4,p5]) rfl ⟨_,rfl,?_,?_⟩
 · exact Kf
 · exact pC
theorem Zr (op:Int) (i j:aY) (ex ex2:List UInt8) (hc:∀ W,Calls prog 84 #[.int .u8 op] W (aU (i,ex) W))
 (hx:∀ v W,Row W v i.2.length (opc i.2)→(i.2=[]→v=.slice none 0 0)→Calls prog 88 #[.agg #[.string ⟨i.1.toArray⟩,v],.string ⟨ex.toArray⟩,.int .i64 6] W (aU (j,ex2) W)) (_hb0:0≤op) (_hb1:op≤255) (hcb:(op == 203)=false) (he:j.1.isEmpty=true) (w:World):Calls prog 53 #[.int .i64 4,.int .u8 op] w (fun e w'=>∃ v,e=.returned (.tuple #[.agg #[.int .i64 0,.int .u8 0,.string ⟨#[]⟩,v,.string ⟨#[]⟩,.bool false],.int .i64 0])∧w'.ownsRow w.heap.size 144 3 v (([]:List Op3)).length (opc (([]:List Op3)))∧Below w.heap.size w w'):=by
 have HC:=Hh hc;have HX:=Hh hx;clear hc hx;go_enter func53,ntmps53
 go_wp2_with fail
 generalize hW0:((w.alloc _).alloc _)=W0;have h0:W0.heap[w.heap.size]? = some (.cells #[.int .i64 0,.int .u8 0,.string ⟨#[]⟩,.slice none 0 0,.string ⟨#[]⟩,.bool false] 107 (0,0)):=by rw[←hW0];exact aE (aF _ _)
 have h1:W0.heap[w.heap.size+1]? = some (.cells #[.int .i64 4,.int .u8 op,.string ⟨#[]⟩,.slice none 0 0,.string ⟨#[]⟩,.bool false] 107 (0,0)):=by
  exact Kg
 have HBW:=Hh (show Below w.heap.size w W0 by rw[←hW0];exact aQ (aQ br))
 have H0:=Hh h0;have H1:=Hh h1;clear hW0 h0 h1;(with_reducible refine (HC.out _).mono ?_);rintro e w2 ⟨v,rfl,ho⟩;obtain⟨a',n',c',rfl⟩:=ho.slice;obtain⟨ho1,ho2,ho3⟩:=ho;have HOA:=Hh ho1;have HOB:=Hh ho2;have HOC:=Hh ho3;clear ho1 ho2 ho3;go_wp2_with fail
 (with_reducible refine (HX.out _ _ (Row.of_owns (dG HOA.out (br.alloc lr _))) HOB.out).mono ?_);rintro e w3 ⟨v,rfl,ho⟩;obtain⟨a,n,c,rfl⟩:=ho.slice;have hb3:Below W0.heap.size W0 w3:=dC HOC.out ho.2.2;have h0:=aB H0.out hb3 (aA H0.out);have h1:=aB H1.out hb3 (aA H1.out);have HO:=Hh (dF ho.1 (Nat.le_trans HOC.out.size (by rw[World.size_alloc];omega)));have HB3:=Hh (HBW.out.trans (hb3.mono HBW.out.size));obtain⟨⟨p0,p1,p2,p3,p4,p5⟩,f0,f1,f2,f3,f4,f5⟩:=bB h0;obtain⟨⟨q0,q1,q2,q3,q4,q5⟩,g0,g1,g2,g3,g4,g5⟩:=bB h1;have hl0:=aA h0;have hl1:=aA h1;have HR1:=Hh (aA H1.out);clear ho h0 h1 hb3;go_wp2_with fail
 refine bodyPost_ret (v:=.tuple #[.agg #[.int .i64 0,.int .u8 0,.string ⟨#[]⟩,.slice none 0 0,.string ⟨#[]⟩,.bool false],.int .i64 0]) (by simp[results,results53,go_sem,p0,p1,p2,p3,p4,p5]) rfl ⟨_,rfl,?_,?_⟩
 · exact World.ownsRow_nil _ _ _ _
 · exact pC
theorem Zt (w:World):Calls prog 53 #[.int .i64 4,.int .u8 203] w (fun e w'=>∃ v,e=.returned (.tuple #[.agg #[.int .i64 0,.int .u8 0,.string ⟨#[]⟩,v,.string ⟨#[]⟩,.bool false],.int .i64 2])∧w'.ownsRow w.heap.size 144 3 v ([]:List Op3).length (opc ([]:List Op3))∧Below w.heap.size w w'):=by
 go_enter func53,ntmps53
 go_wp2_with fail
 generalize hW0:((w.alloc _).alloc _)=W0;have h0:W0.heap[w.heap.size]? = some (.cells #[.int .i64 0,.int .u8 0,.string ⟨#[]⟩,.slice none 0 0,.string ⟨#[]⟩,.bool false] 107 (0,0)):=by rw[←hW0];exact aE (aF _ _)
 have h1:W0.heap[w.heap.size+1]? = some (.cells #[.int .i64 4,.int .u8 203,.string ⟨#[]⟩,.slice none 0 0,.string ⟨#[]⟩,.bool false] 107 (0,0)):=by
  rw[←hW0]
  have:=aF (w.alloc (.cells #[.int .i64 0,.int .u8 0,.string ⟨#[]⟩,.slice none 0 0,.string ⟨#[]⟩,.bool false] 107)) (.cells #[.int .i64 4,.int .u8 203,.string ⟨#[]⟩,.slice none 0 0,.string ⟨#[]⟩,.bool false] 107)
  rwa [World.size_alloc] at this
 have HBW:=Hh (show Below w.heap.size w W0 by rw[←hW0];exact aQ (aQ br))
 have H0:=Hh h0;have H1:=Hh h1;clear hW0 h0 h1;have HB3:=HBW;obtain⟨⟨p0,p1,p2,p3,p4,p5⟩,f0,f1,f2,f3,f4,f5⟩:=bB H0.out;have hl0:=aA H0.out;have hl1:=aA H1.out;go_wp2_with fail
 refine bodyPost_ret (v:=.tuple #[.agg #[.int .i64 0,.int .u8 0,.string ⟨#[]⟩,.slice none 0 0,.string ⟨#[]⟩,.bool false],.int .i64 2]) (by simp[results,results53,go_sem,p0,p1,p2,p3,p4,p5]) rfl ⟨_,rfl,?_,?_⟩
 · exact World.ownsRow_nil _ _ _ _
 · exact pC
theorem Sl:∀ op:Fin 256,(aZ op.val).1.2.length≤10∧(aZ op.val).2.length≤100∧∀ o∈(aZ op.val).1.2,(o.1=1∨o.1=3∨o.1=4)→o.2.2=0:=by decide +kernel
theorem jX {page op:Nat} {i:aY} {ex:List UInt8} {al:Bool} {k:Nat} (h:i.1.isEmpty=true):pN page op i ex al k=(none,k):=by
 unfold pN;rw[if_pos (List.isEmpty_iff.1 h)]
theorem jW {page op:Nat} {i:aY} {ex:List UInt8} {al:Bool} {k:Nat} (h:i.1.isEmpty=false):pN page op i ex al k=(some ⟨page,op,i.1,i.2,ex,al⟩,1):=by
 unfold pN;rw[if_neg (fun e=>by rw[e] at h;cases h)]
theorem Uk (page op:Nat) (hp:page<7) (hop:op<256) (w:World):Calls prog 53 #[.int .i64 page,.int .u8 op] w (pY (atR page op) w):=by
 have hb0:(0:Int)≤(op:Int):=om
 have hb1:(op:Int)≤255:=om
 have hm:=Sl ⟨op,hop⟩;simp only at hm;obtain⟨hm1,hm2,hm3⟩:=hm;rcases (by omega:page=0∨page=1∨page=2∨page=3∨page=4∨page=5∨page=6) with rfl|rfl|rfl|rfl|rfl|rfl|rfl
 · show Calls _ _ _ _ (pY (pN 0 op (aZ op).1 (aZ op).2 false 2) w)
   cases he:(aZ op).1.1.isEmpty
   · rw[jW he];exact aAc op (aZ op).1 (aZ op).2 (fun W=>iB op hop W) hb0 hb1 he w
   · rw[jX he];exact aAb op (aZ op).1 (aZ op).2 (fun W=>iB op hop W) hb0 hb1 he w
 · show Calls _ _ _ _ (pY (pN 1 op (wC op (cV (op%8))) [] false 0) w)
   have hz:(op:Int)%8=((op%8:Nat):Int):=om
   have hreg:dO ((op%8:Nat):Int)=cV (op%8):=by
    have:op%8<8:=Nat.mod_lt _ dc
    rcases (by omega:op%8=0∨op%8=1∨op%8=2∨op%8=3∨op%8=4∨op%8=5∨op%8=6∨op%8=7) with h|h|h|h|h|h|h|h<;>rw[h]<;>rfl
   have hc:∀ W,Calls prog 85 #[.int .u8 op,opV (dO ((op%8:Nat):Int))] W (dU (wC op (cV (op%8))) W):=fun W=>by rw[hreg];exact Fh op hop (cV (op%8)) W
   cases he:(wC op (cV (op%8))).1.isEmpty
   · rw[jW he];exact aAa op _ ((op%8:Nat):Int) hc hz om om hb0 hb1 he w
   · rw[jX he];exact Zz op _ ((op%8:Nat):Int) hc hz om om hb0 hb1 he w
 · show Calls _ _ _ _ (pY (pN 2 op (nB op).1 (nB op).2.1 (nB op).2.2 3) w)
   cases he:(nB op).1.1.isEmpty
   · rw[jW he];exact Zy op (nB op).1 (nB op).2.1 (nB op).2.2 (fun W=>Fd op hop W) hb0 hb1 he w
   · rw[jX he];exact Zx op (nB op).1 (nB op).2.1 (nB op).2.2 (fun W=>Fd op hop W) hb0 hb1 he w
 · by_cases hcb:op=203
   · subst hcb;exact Zw w
   · have hne:((op:Int) == 203)=false:=by simp;omega
     have e:atR 3 op=pN 3 op (bG (aZ op).1 (aZ op).2 5).1 (bG (aZ op).1 (aZ op).2 5).2 false 0:=by
      unfold atR;rw[if_neg om,if_neg om,if_neg om,if_pos om,if_neg hcb];rfl
     rw[e];cases he:(bG (aZ op).1 (aZ op).2 5).1.1.isEmpty
     · rw[jW he];exact Zv op (aZ op).1 _ (aZ op).2 _ (fun W=>iB op hop W) (fun v W hv hn=>oE (aZ op).1 (aZ op).2 5 om om hm3 v W hv hn hm1 hm2) hb0 hb1 hne he w
     · rw[jX he];exact Zu op (aZ op).1 _ (aZ op).2 _ (fun W=>iB op hop W) (fun v W hv hn=>oE (aZ op).1 (aZ op).2 5 om om hm3 v W hv hn hm1 hm2) hb0 hb1 hne he w
 · by_cases hcb:op=203
   · subst hcb;exact Zt w
   · have hne:((op:Int) == 203)=false:=by simp;omega
     have e:atR 4 op=pN 4 op (bG (aZ op).1 (aZ op).2 6).1 (bG (aZ op).1 (aZ op).2 6).2 false 0:=by
      unfold atR;rw[if_neg om,if_neg om,if_neg om,if_pos om,if_neg hcb];rfl
     rw[e];cases he:(bG (aZ op).1 (aZ op).2 6).1.1.isEmpty
     · rw[jW he];exact Zs op (aZ op).1 _ (aZ op).2 _ (fun W=>iB op hop W) (fun v W hv hn=>oE (aZ op).1 (aZ op).2 6 om om hm3 v W hv hn hm1 hm2) hb0 hb1 hne he w
     · rw[jX he];exact Zr op (aZ op).1 _ (aZ op).2 _ (fun W=>iB op hop W) (fun v W hv hn=>oE (aZ op).1 (aZ op).2 6 om om hm3 v W hv hn hm1 hm2) hb0 hb1 hne he w
 · exact aAU op (nC 5 op) (fun W=>vP 5 op hop W) hb0 hb1 w
 · exact aAT op (nC 6 op) (fun W=>vP 6 op hop W) hb0 hb1 w
theorem zN (b:List UInt8) (v:Value) (w:World) (hv:Row w v b.length (aT b)) (hb:b≠[]) (hl:b.length≤100000):Calls prog 28 #[v] w (Qy (bX b) w):=by
 rw[sV b hb];exact Cy (fun page op W hp=>Uk page op.toNat hp op.toNat_lt W) b v w hv hb hl
theorem yE (b:List UInt8) (v:Value) (w:World) (hv:Row w v b.length (aT b)) (hl:b.length≤100000) :
 Calls prog 14 #[v] w fun e w'=>∃ v' its,e=.returned v'∧its.map Prod.fst=dI b∧ItsAt w' w.heap.size v' its∧Below w.heap.size w w':=by
 obtain⟨i0,hi,hz0,hz1,hz2⟩:=info_parts Tryz.infoItem;have HV:=Hh hv;obtain⟨a,c,rfl,hcap,_⟩:=hv;have hdl:=kK b;go_enter func14,ntmps14
 go_wp2_with fail
 go_loopw [0,3] (fun bs o wr=>∃ (q:Nat) (pre:List ItX),q≤b.length∧Hid (Row w bs (b.drop q).length (aT (b.drop q)))∧Hid (pre.map Prod.fst++dI (b.drop q)=dI b)∧Hid (ItsAt wr w.heap.size o pre)∧Hid (Below w.heap.size w wr)) (fun bs _ _=>match bs with | .slice _ n _=>n|_=>0)
 case atStart=>exact⟨0,[],Nat.zero_le _,Hh (by simpa using HV.out),Hh sm,Hh (ItsAt.nil _ _),Hh br⟩
 case round =>
  obtain⟨q,pre,hq,HR,HE,HI,HB⟩:=hrel;obtain⟨ab,cb,rfl,hcb,hcs⟩:=HR.out;obtain⟨av,cv,rfl⟩:=aI HI.out.own;by_cases hlt:q<b.length
  · have hne:b.drop q≠[]:=by intro e;have:=congrArg List.length e;simp at this;omega
    have hdc:=pQ (b.drop q) hne;have hrl:=kC (b.drop q) hne;have hbl:(b.drop q).length=b.length - q:=List.length_drop ..;have HF:=Hh (fun W (hb:Below wr.heap.size wr W)=>zN (b.drop q) (.slice ab (b.drop q).length cb) W ((HR.out.below HB.out).below hb) hne (by rw[hbl];omega));unfold Qy at HF;rw[List.drop_drop] at hdc;have hE:=HE.out;obtain⟨gb,ob,rfl,hgb,hcells⟩:=hcs (by intro e;have:=congrArg List.length e;rw[fS] at this;simp at this;omega);rw[hbl] at hrl;generalize hit:bX (b.drop q)=it at HF hdc hrl;rw[hdc] at hE;have hN:pre.length<(dI b).length:=by rw[←hE];simp
    have HEQ:=Hh hE;obtain⟨hr1,hr2,-⟩:=hrl;obtain⟨ki,ra,⟨im,ia⟩,ial⟩:=it;dsimp only at hr1 hr2;have hpl:pre.length≤100000:=om
    have hsz:=HB.out.size;have hi0:(0:Int)<((b.drop q).length:Int):=by rw[hbl];omega
    have hi1:(ra.length:Int)≤((b.drop q).length:Int):=by rw[hbl];omega
    have hi2:((b.drop q).length:Int)≤(cb:Int):=om
    have HBL:=Hh hbl;clear hdc hE hit hcells hcs hbl;generalize hML:(b.drop q).length=M at *;have HML:=Hh hML;clear hML;go_wp2_with fail
    (with_reducible refine (HF.out _ br).mono ?_);rintro e w2 ⟨vr,va,rfl,hit,hb2⟩;obtain⟨ar,cr,rfl⟩:=aI hit.raw;obtain⟨aa,ca,rfl⟩:=hit.args.slice;have hiv:itV ⟨ki,ra,(im,ia),ial⟩ (.slice ar ra.length cr) (.slice aa ia.length ca)=.agg #[.int .i64 ki,.slice ar ra.length cr,.string ⟨im.toArray⟩,.slice aa ia.length ca,.bool ial]:=rfl;dsimp only;rw[hiv];clear hiv;obtain⟨W3,hW3⟩:∃ W3,w2.alloc (.cells #[.int .i64 ki,.slice ar ra.length cr,.string ⟨im.toArray⟩,.slice aa ia.length ca,.bool ial] 55)=W3:=⟨_,rfl⟩;have hal:Below w2.heap.size w2 W3:=by rw[←hW3];exact br.alloc lr _
    have hbox:W3.heap[w2.heap.size]? = some (.cells #[.int .i64 ki,.slice ar ra.length cr,.string ⟨im.toArray⟩,.slice aa ia.length ca,.bool ial] 55 (0,0)):=by rw[←hW3];exact aF _ _
    have hb3:=hb2.trans (hal.mono hb2.size);have hit3:=(hit.mono hsz).below hal;have HI3:=Hh (HI.out.below hb3);have HB3:=Hh (HB.out.trans (hb3.mono hsz));have HT3:=Hh hit3;have HBOX:=Hh hbox;obtain⟨⟨q0,q1,q2,q3,q4⟩,_⟩:=bJ hbox;have hlx:=aA hbox;have hlown:∀ k,(Value.slice av pre.length cv).ownBlock=some k→k<w2.heap.size:=fun k hk=>Nat.lt_of_lt_of_le (HI.out.own.lt k hk).2 hb2.size;have HLO:=Hh hlown;clear hal hb2 hb3 hbox hit hit3 hlown;have hsz3:=HB3.out.size;go_wp2_with (at_builtin;refine wpList_append_own _ rfl _ _ 29 rfl w.heap.size 55 i0 (.agg #[.int .i64 0,.slice none 0 0,.string ⟨#[]⟩,.slice none 0 0,.bool false]) 5 80 underlying29 hi hz0 hz1 hz2 rfl dc _ _ _ rfl (HI3.out.own.alloc _) ⟨W3.heap.size,0,none⟩ 1 1 [.int .i64 ki,.slice ar ra.length cr,.string ⟨im.toArray⟩,.slice aa ia.length ca,.bool ial] rfl rfl (xP _ _ _ _ _ _ _) aAz (by unfold maxLen;omega) om (by simp;omega) ?_)
    intro v' w4 hown' hg4 _;obtain⟨g',cap',rfl⟩:=ownsRow_succ hown';have hal:Below W3.heap.size W3 (W3.alloc (.cells #[.int .i64 ki,.slice ar ra.length cr,.string ⟨im.toArray⟩,.slice aa ia.length ca,.bool ial] 55)):=br.alloc lr _;have hits4:=(HI3.out.below hal).snoc (x:=(⟨ki,ra,(im,ia),ial⟩,.slice ar ra.length cr,.slice aa ia.length ca)) (HT3.out.below hal) hown' hg4;have hb4:Below w.heap.size w w4:=(HB3.out.trans (hal.mono hsz3)).grown hg4 (by rw[World.size_alloc];omega) (fun k hk=>(HI3.out.own.lt k hk).1);have hbox4:w4.heap[w2.heap.size]? = some (.cells #[.int .i64 ki,.slice ar ra.length cr,.string ⟨im.toArray⟩,.slice aa ia.length ca,.bool ial] 55 (0,0)):=(hg4.block _ (by rw[World.size_alloc];omega) (fun e=>by have:=HLO.out _ e.symm;omega)).trans (aE HBOX.out);clear q0 q1 q2 q3 q4 hlx;obtain⟨⟨q0,q1,q2,q3,q4⟩,_⟩:=bJ hbox4;have hlx:=aA hbox4;have HB4:=Hh hb4;have HITS4:=Hh hits4;have HHG:=Hh hg4;clear hb4 hits4 hg4 hown' hal hbox4 hW3;go_wp2_with fail
    go_roundw
    case rel =>
     have hml:=HML.out;have hbl:=HBL.out;have hl2:(b.drop (q+ra.length)).length=M - ra.length:=by rw[List.length_drop];omega
     have hrow:Row w (.slice (if cb=ra.length then some ⟨gb,ob,none⟩ else some ⟨gb,ob+ra.length,none⟩) (M - ra.length) (cb - ra.length)) (M - ra.length) (aT (b.drop (q+ra.length))):=by
      by_cases hlast:ra.length<M
      · have hrd:=yB (k:=ra.length) HR.out hml.symm om;rw[List.drop_drop,hl2] at hrd;rw[if_neg om];exact hrd
      · have hz:b.drop (q+ra.length)=[]:=List.eq_nil_of_length_eq_zero om;rw[hz];exact⟨_,_,rfl,om,fun h=>absurd rfl h⟩
     refine⟨q+ra.length,pre++[(⟨ki,ra,(im,ia),ial⟩,.slice ar ra.length cr,.slice aa ia.length ca)],om,Hh (by rw[hl2];exact hrow),Hh (by rw[←HEQ.out];simp),HITS4,HB4⟩
    case measure=>dsimp only;omega
  · obtain rfl:q=b.length:=om
    rw[List.drop_length] at HR HE ⊢;have hE:=HE.out;rw[zT,List.append_nil] at hE;have HEQ:=Hh hE;clear hE;go_wp2_with fail
    go_ret;exact⟨_,pre,rfl,HEQ.out,HI.out,HB.out⟩
end Go.Proofs.YtoigglljnklhlaaGreatDoor
namespace Go.Proofs.YtoigglljnklhlaaGreatDoor
open Go.RowKit Go.Sort
end Go.Proofs.YtoigglljnklhlaaGreatDoor
