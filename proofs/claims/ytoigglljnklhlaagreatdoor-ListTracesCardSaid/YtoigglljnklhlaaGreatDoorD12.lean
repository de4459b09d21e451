/- Joined. -/
import Derived.Test.YtoigglljnklhlaaGreatDoorD11
set_option maxHeartbeats 8000000
set_option maxRecDepth 100000
namespace Go.Proofs.YtoigglljnklhlaaGreatDoor
section
open Go.RowKit Go.Sort
open Go.Proofs.Tryz
theorem Ct (P:List UInt8→Bool) (fn:Nat) (fb:Array Value) (v1:Value) (L:List (List UInt8)) (w:World) (h1:Row w v1 L.length (L.map Proofs.encStr)) (hl:L.length≤1000000) (hent:∀ args w,(callFunc fn args).run prog w=.ok (.enter fn args) w)
 (hok:∀ y W,y∈L→Below w w W→Calls prog fn (#[.string ⟨y.toArray⟩]++fb) W fun e w'=>e=.returned (.bool (P y))∧Below W W w') :
 Calls prog 290 #[v1,.func (.func fn) #[] fb] w fun e w'=>(∃ i:Int,e=.returned i∧decide (0≤i)=L.any P)∧Below w w w':=by
 obtain⟨a1,c1,rfl,hc1,h1⟩:=h1;have H1:=Hh h1;clear h1;have HOK:=Hh hok;clear hok;go_enter func290,ntmps290
 go_wp2_with fail
 go_loopw [5,8] (fun _ i wr=>∃ j:Nat,j≤L.length∧i=.int .i64 j∧Below w w wr∧Hid ((L.take j).any P=false)) (fun _ i _=>L.length - (intOf i).toNat)
 case atStart=>exact⟨0,Qi _,rfl,Below.refl _ _,Hh sm⟩
 case round =>
  obtain⟨j,hj,rfl,hbel,Hno⟩:=hrel;have HBEL:=Hh hbel;clear hbel;by_cases hlt:j<L.length
  · obtain⟨y,hy⟩:∃ y,L[j]? = some y:=⟨_,Qb hlt⟩;obtain⟨g,o,rfl,hg,hc⟩:=H1.out (by intro e;rw[List.map_eq_nil_iff] at e;rw[e] at hlt;exact absurd hlt (Qw _))
    have hcy:wr.cell? ⟨g,o+j,none⟩=some (.string ⟨y.toArray⟩):=by
     rw[HBEL.out.cell (p:=⟨g,o+j,none⟩) hg,hc j (by rw[Qs];exact hlt),Ya,hy];rfl
    clear hc;have hi0:(0:Int)≤(j:Int):=om
    have hi1:(j:Int)<(L.length:Int):=om
    have hsz:w.heap.size≤wr.heap.size:=HBEL.out.size;have hgw:g<wr:=om
    have hmem:y∈L:=Qu hy;have hcall:=HOK.out y wr hmem HBEL.out;obtain⟨r,hr⟩:∃ r,P y=r:=⟨_,rfl⟩;rw[hr] at hcall;have HCALL:=Hh hcall;clear hcall;have HR:=Hh hr;clear hr;have HY:=Hh hy;clear hy;have HM:=Hh hmem;clear hmem;go_wp2_with fail
    refine HCALL.out.mono ?_;rintro e w1 ⟨rfl,hb⟩;have HB:=Hh (HBEL.out.trans (hb.mono hsz));clear hb;cases r with
    | true =>
      go_wp2_with fail
      go_ret;exact⟨⟨j,rfl,by rw[Qh hi0];exact (Xx.2 ⟨y,HM.out,HR.out⟩).symm⟩,HB.out⟩
    | false =>
      go_wp2_with fail
      go_roundw
      case rel=>exact⟨j+1,om,by go_num,HB.out,Hh (by rw[Qo,HY.out];simp[Hno.out,HR.out])⟩
      case measure=>simp[intOf];omega
  · obtain rfl:j=L.length:=om
    have hno:L.any P=false:=by have:=Hno.out;rwa [Qy] at this
    have HNO:=Hh hno;clear hno;go_wp2_with fail
    go_ret;exact⟨⟨-1,rfl,by rw[HNO.out];rfl⟩,HBEL.out⟩
theorem tZ (P:List UInt8→Bool) (fn:Nat) (fb:Array Value) (v1:Value) (L:List (List UInt8)) (w:World) (h1:Row w v1 L.length (L.map Proofs.encStr)) (hl:L.length≤1000000) (hent:∀ args w,(callFunc fn args).run prog w=.ok (.enter fn args) w)
 (hok:∀ y W,y∈L→Below w w W→Calls prog fn (#[.string ⟨y.toArray⟩]++fb) W fun e w'=>e=.returned (.bool (P y))∧Below W W w') :
 Calls prog 260 #[v1,.func (.func fn) #[] fb] w fun e w'=>e=.returned (.bool (L.any P))∧Below w w w':=by
 have hc:=Ct P fn fb v1 L w h1 hl hent hok;have HC:=Hh hc;clear hc h1 hok;go_enter func260,ntmps260
 go_wp2_with fail
 refine HC.out.mono ?_;rintro e w1 ⟨⟨i,rfl,hi⟩,hb⟩;have HI:=Hh hi;clear hi;have HB:=Hh hb;clear hb;go_wp2_with fail
 go_ret;exact⟨by rw[←HI.out];rfl,HB.out⟩
end
section
open Go.RowKit Go.Sort Go.Shelf
open Go.Proofs.Tryz
attribute [local go_sem] Oper.semAt_some
def eS (mn:List UInt8) (l:List RA):List RA:=l.filter fun r=>decide (r.1.mn=mn)
def kP (l:List RA):List ByteArray:=l.map fun r=>⟨r.1.text.toArray⟩
theorem Mv (mn:List UInt8) (l:List RA) (r:RA) (h:r.1.mn=mn):eS mn (l++[r])=eS mn l++[r]:=by simp[eS,h]
theorem Gq (mn:List UInt8) (l:List RA) (r:RA) (h:r.1.mn≠mn):eS mn (l++[r])=eS mn l:=by simp[eS,h]
theorem zI {W w1:World} {o:Obj} {row:Option Nat} {k j:Nat} {v:Value} (hg:(W.alloc o).grownBy w1 row) (hk:k<W) (hr:some k≠row) (hj:k≠j):(w1.setCell j v).heap[k]? = W.heap[k]? :=
 ((Below.heap_setCell w1 ⟨j,0,none⟩ v k hj).trans (hg.block k (by rw[Qa];omega) hr)).trans (Below.heap_alloc W o k hk)
theorem rY (r:RA):(Lib.cut (r.1.text.drop 9) [32]).1=r.1.mn:=by
 have h:=mC r;unfold iY at h;simp only[Qe,Qf] at h;obtain⟨⟨⟨⟨⟨_,h1⟩,_⟩,_⟩,_⟩,_⟩:=h;exact h1
theorem Ju (r0:RA) (rl:List RA) (mn:List UInt8) (w:World) (hlen:rl.length≤1000) :
 Calls prog 258 #[.string (dA (r0::rl)),mn] w fun e w'=>∃ v,e=.returned v∧w'.ownsRow w 9 1 v (eS mn (r0::rl)).length (fH (kP (eS mn (r0::rl))))∧Below w w w':=by
 obtain⟨i0,hi,hz0,hz1,hz2⟩:=info_parts Tryz.infoString;refine (callsIn_wide (n:=3)).1 ?_;obtain⟨J,hJ⟩:∃ J,dA (r0::rl)=J:=⟨_,rfl⟩;rw[hJ];have HJ:=Hh hJ;clear hJ;refine callsIn_of_wp_marks func258 rfl trivial ?_ rfl;simp only[ntmps258,Qx,Qp,Qz,Nat.reduceAdd,Nat.reduceSub,Array.replicate_succ,Array.replicate_zero,List.push_toArray,List.append_toArray,Ye,Xy];gi_wp2_with (refine⟨trivial,?_⟩;gi_at_call 274;refine (callsIn_wide.2 (uG _ _)).mono ?_;rintro e w' ⟨rfl,rfl⟩)
 obtain⟨c,hc⟩:∃ c:World,((w.alloc (.cells #[mn] 9)).alloc (.cells #[zz] 177))=c:=⟨_,rfl⟩;have hcs:c.heap.size=w.heap.size+1+1:=by rw[←hc];simp
 have b0:Boxed c w 9 (.string ⟨mn.toArray⟩):=by rw[←hc];exact (Boxed.new _ _ _).alloc _
 have b1:Boxed c (w.heap.size+1) 177 (.slice none 0 0):=by rw[←hc];have:=Boxed.new (w.alloc (.cells #[mn] 9)) 177 (.slice none 0 0);rwa [Qa] at this
 have hB0:Below w w c:=by rw[←hc];exact (((Below.refl _ w).alloc lr _).alloc sm _)
 rw[hc];clear hc;have hst:StrB (w.heap.size+1+1) (c.alloc (.cells #[.string J] 9)) (dA (r0::rl)):=by rw[HJ.out,←hcs];exact Boxed.new _ _ _
 refine gJ rfl dc (gf:=292) (lb:=#[.pointer (some ⟨w.heap.size+1+1,0,none⟩)]) rfl trivial (enters_of func292 kr rfl)
  (uH 2 (w.heap.size+1+1) dc r0 rl hlen)
  (fun o o'=>(Boxed.alloc (Boxed.alloc hst o) o')) (fun A B k o h hk hc _=>rR A B k o h hk hc) Ev (Ew (by rw[Qa,hcs];omega)) (fun _ _ _ _ _ _ _ _ _=>trivial) (fun _=>rfl)
  (fun pre W=>(Boxed W w 9 (.string ⟨mn.toArray⟩)∧∃ v,Boxed W (w.heap.size+1) 177 v∧W.ownsRow (w.heap.size+1+1+1) 9 1 v (eS mn pre).length (fH (kP (eS mn pre)))∧w.heap.size+1+1<W.heap.size)∧Below w w W)
  (fun _ _ _=>False)
  ?hI ?hIs (fun c _ _ _ _ h _ _=>h) (fun _ _ _ _ h _=>h) ⟨⟨b0.alloc _,_,b1.alloc _,Xa _ _ _ _,by rw[Qa,hcs];omega⟩,hB0.alloc om _⟩
  (fun x=>{ tmps:=#[.string J,.string ⟨mn.toArray⟩,undef,.pointer w,.slice none 0 0,.pointer (w+1:Nat),.string ⟨x.1.text.toArray⟩,undef,undef,undef,.string J,.func (.func 292) #[] #[.pointer (some ⟨w.heap.size+1+1,0,none⟩)],.string ⟨x.1.text.toArray⟩,undef,undef,undef,undef,undef,undef,undef,undef,undef,undef,undef,undef,undef,undef,undef,undef,undef,undef],defers:=[] }) ?assign ?body ?done ?stop
 case hI=>exact OwnFrom.and (fun s A B row hs hg hr=>⟨(Own.from (boxed_own (β:=Unit) _ _ fun _=>_) _) () A B row hs.1 hg hr,by
  obtain⟨v,h1,h2,h6⟩:=hs.2;have h3:=(Own.from (holdsRow_own (β:=Unit) (w.heap.size+1+1+1) (w.heap.size+1) 177 9 1 (fun _=>(eS mn s).length) (fun _=>fH (kP (eS mn s))) (fun _ _=>True)) _) () A B row ⟨v,h1,h2,trivial⟩ hg hr
  obtain⟨v',h4,h5,_⟩:=h3;exact⟨v',h4,h5,Qj h6 hg.size⟩⟩) (ownFrom_below lr (by rw[Qa,hcs];omega))
 case hIs=>exact fun s A B ⟨⟨h1,v,h2,h3,h4⟩,h5⟩ hs=>⟨⟨iS h1 hs.1 om,v,iS h2 hs.1 om,Kb.owns h3 hs.1 (fun e=>by
  rcases h3.2 with⟨h,_⟩|⟨g,cap,cur,h,hg,_⟩
  · rw[h] at e;cases e
  · rw[h] at e;have e3:g=w.heap.size+1+1:=Xi e;omega),Qj h4 hs.1.size⟩,h5.trans (hs.1.belowN om h5.size)⟩
 case assign =>
  intro l x W K hK;gi_wp2
  exact hK
 case body =>
  rintro l pre x W ⟨⟨c0,v,c1,hrow,hWs⟩,hB⟩ _ hN;have hc0:=c0.cell;have k1:=c1.cell;have f1:=c1.frozen;obtain⟨h9,h100,_⟩:=cZ x;obtain⟨s,hs⟩:∃ s:ByteArray,s=⟨x.1.text.toArray⟩:=⟨_,rfl⟩;have hsz:s.size=x.1.text.length:=by rw[hs];show x.1.text.toArray.size=_;simp
  have hs9:9≤s.size:=om
  have hs100:s.size≤100:=om
  have hcut:=zW (s.extract 9 s.size) 32 W (by rw[ByteArray.size_extract];omega);obtain⟨u1,u2,hu1,hu2⟩:∃ u1 u2,(Lib.cut (s.extract 9 s.size).data.toList [32]).2.1=u1∧(Lib.cut (s.extract 9 s.size).data.toList [32]).2.2=u2:=⟨_,_,rfl,rfl⟩;have he:(Lib.cut (s.extract 9 s.size).data.toList [32]).1=x.1.mn:=by
   rw[←rY x,hs,ByteArray.data_extract];congr 2
   rw[Array.toList_extract];simp[List.extract,ByteArray.size]
   rw[Xj sm]
  rw[he,hu1,hu2] at hcut;rw[←hs];have HCUT:=Hh hcut;clear hcut hu1 hu2 he;have HS:=Hh hs;clear hs hsz;have hne:=gA hrow (k:=w.heap.size+1) om;have hne0:=gA hrow (k:=w.heap.size) om;have hne2:=gA hrow (k:=w.heap.size+1+1) om;have hle:=List.length_filter_le (fun r:RA=>decide (r.1.mn=mn)) pre;have hle2:(eS mn pre).length≤1001:=by unfold eS;omega
  rcases hm:decide (x.1.mn=mn) with _|_
  · have hb:(x.1.mn == mn)=false:=by rw[Xd];exact of_decide_eq_false hm
    have HM:=Hh (of_decide_eq_false hm);clear hm;gi_wp2_with (refine⟨trivial,?_⟩;gi_at_call 289;refine (CallsIn.inRound l (callsIn_wide.2 HCUT.out)).mono ?_;rintro e w' ⟨rfl,q,rfl⟩)
    exact⟨⟨Qk _,fun _ _ h _=>h⟩,rfl,⟨c0,v,c1,by rw[Gq mn pre x HM.out];exact hrow,hWs⟩,hB.trans ⟨rfl,rfl,rfl,Qk _,fun _ _=>rfl⟩⟩
  · have hb:(x.1.mn == mn)=true:=by rw[Yq];exact of_decide_eq_true hm
    have HM:=Hh (of_decide_eq_true hm);clear hm;have HW:w.heap.size≤W.heap.size:=hB.size;have hrq:∀ q,(W.drewN q).ownsRow (w.heap.size+1+1+1) 9 1 v (eS mn pre).length (fH (kP (eS mn pre))):=fun q=>hrow;have hcq:∀ q,Boxed (W.drewN q) (w.heap.size+1) 177 v:=fun q=>c1;have hBq:∀ q,Below w w (W.drewN q):=fun q=>hB.trans ⟨rfl,rfl,rfl,Qk _,fun _ _=>rfl⟩;gi_wp2_with (first|(refine⟨trivial,?_⟩;gi_at_call 289;refine (CallsIn.inRound l (callsIn_wide.2 HCUT.out)).mono ?_;rintro e w' ⟨rfl,q,rfl⟩)|(gi_at_builtin;refine wpListIn_append_own _ rfl _ _ 177 rfl (w.heap.size+1+1+1) 9 i0 (.string ⟨#[]⟩) 1 16 underlying177 hi hz0 hz1 hz2 rfl dc _ _ _ rfl ((hrq _).alloc _) ⟨W,0,none⟩ 1 1 [.string s] rfl rfl (cell_one_new _ _ _) (by simp[Value.oneCell']) (by unfold maxLen;omega) om (by simp;omega) ?_;intro v' w1 hown' hgrow _;obtain⟨g',cap',rfl⟩:=ownsRow_succ hown';have hv1:=((hcq _).alloc (.cells #[.string s] 9)).kept hgrow hne;have hc1:=hv1.cell;have hf1:=hv1.frozen))
    obtain⟨_,hv2,_,hk2,hb2⟩:=(hcq _).appended dc (aP (hrq _) (b':=w.heap.size) om) (hBq _).size om (aP hown' (b':=w.heap.size) om) hgrow;refine⟨(show KeepsOthers W (W.drewN _) from⟨Qk _,fun _ _ h _=>h⟩).trans hk2,zI (W:=W.drewN q) hgrow hWs hne2 om,⟨(zI (W:=W.drewN q) hgrow (by show _<W.heap.size;omega) hne0 om).trans c0,_,hv2,?_,Qj hWs hk2.size⟩,(hBq _).trans hb2⟩
    rw[Mv mn pre x HM.out];have h7:=hown';rw[HS.out] at h7;simp only[kP,fH,Ym,Qc,Xt,List.map_nil,Qp,Qz] at h7 ⊢;exact Kb.owns h7 ((Kb.refl (w.heap.size+1) w1).setCell 0 _) (gA hown' (k:=w.heap.size+1) om).symm
 case done =>
  rintro D ys W hD rfl ⟨⟨c0,v,c1,hrow,hWs⟩,hB⟩ hK;have k1:=c1.cell;have hle:=List.length_filter_le (fun r:RA=>decide (r.1.mn=mn)) (r0::rl);gi_wp2
  refine⟨by simp,.inl ⟨_,_,rfl,run_takeDeferred hK,?_⟩⟩
  refine⟨v,by simp[results,Tryz.f258,go_sem],v,rfl,?_,hB.trans (belowK_b (w:=w) lr W D _ _ (by rw[Qa,hcs] at hD;omega) hK rfl rfl)⟩
  exact aP (ownsRow_putObj hrow _ hK rfl) om
 case stop =>
  rintro D c pre W _ _ h _;exact h.elim
end
section
open Go.RowKit Go.Sort
open Go.Proofs.Tryz
def qR (p:Nat):ByteArray:=if p=0∨p=3∨p=4 then qC else if p=1∨p=5∨p=6 then cbS else if p=2 then edS else ⟨#[]⟩
theorem wG (p:Nat) (hp:p<7) (w:World):Calls prog 259 #[p] w fun e w'=>e=.returned (.string (qR p))∧w=w':=by
 have:p=0∨p=1∨p=2∨p=3∨p=4∨p=5∨p=6:=om
 rcases this with rfl|rfl|rfl|rfl|rfl|rfl|rfl
 · rw[show qR 0=qC from rfl]
   go_enter func259,ntmps259
   go_wp2
   go_ret;exact⟨rfl,rfl⟩
 · rw[show qR 1=cbS from rfl]
   go_enter func259,ntmps259
   go_wp2
   go_ret;exact⟨rfl,rfl⟩
 · rw[show qR 2=edS from rfl]
   go_enter func259,ntmps259
   go_wp2
   go_ret;exact⟨rfl,rfl⟩
 · rw[show qR 3=qC from rfl]
   go_enter func259,ntmps259
   go_wp2
   go_ret;exact⟨rfl,rfl⟩
 · rw[show qR 4=qC from rfl]
   go_enter func259,ntmps259
   go_wp2
   go_ret;exact⟨rfl,rfl⟩
 · rw[show qR 5=cbS from rfl]
   go_enter func259,ntmps259
   go_wp2
   go_ret;exact⟨rfl,rfl⟩
 · rw[show qR 6=cbS from rfl]
   go_enter func259,ntmps259
   go_wp2
   go_ret;exact⟨rfl,rfl⟩
theorem Iv (a:Option Addr) (n c:Nat) (hn:0<n) (hn2:n≤1000000) (w:World):Calls prog 257 #[.slice a n c] w fun e w'=>e=.returned (.slice a n c)∧w=w':=by
 have h0:decide ((0:Int)<(n:Int))=true:=Qh om;go_enter func257,ntmps257
 go_wp2
 go_ret;exact⟨rfl,rfl⟩
theorem Cg (b:Nat) (t:List UInt8) (op:Nat) (w:World) (h9:9≤t.length) (h100:t.length≤100) (hop:op<256) (hb:w.cell? b=some (.int .i64 op)) :
 Calls prog 261 #[t,.pointer b] w fun e w'=>e=.returned (.bool (eH t op))∧w=w':=by
 have hw8:IntKind.u8.wrap (op:Int)=(op:Int):=IntWalk.u8_in _ om;go_enter func261,ntmps261
 go_wp2_with fail
 refine (zK t op w h9 h100 hop).mono ?_;rintro e w' ⟨rfl,rfl⟩;go_wp2_with fail
 go_ret;exact⟨rfl,rfl⟩
theorem Ul (b:Nat) (op:Nat) (l:List RA) (v:Value) (w:World) (hop:op<256) (hbl:b<w) (hb:w.cell? b=some (.int .i64 op)) (hl:l.length≤1000000) (hr:Row w v l.length (fH (kP l))) :
 Calls prog 260 #[v,.func (.func 261) #[] #[.pointer b]] w fun e w'=>e=.returned (.bool (l.any fun r=>eH r.1.text op))∧Below w w w':=by
 have h:=tZ (fun t=>eH t op) 261 #[.pointer b] v (l.map fun r=>r.1.text) w
  (by rw[Qs];have:(l.map fun r=>r.1.text).map Proofs.encStr=fH (kP l):=by unfold fH kP;simp[Proofs.encStr]
      rw[this];exact hr) (by rw[Qs];exact hl) (enters_of func261 kr rfl) (fun y W hy hB=>by
   obtain⟨r,_,rfl⟩:=Yo.1 hy;refine (Cg b r.1.text op W (cZ r).1 (cZ r).2.1 hop ((hB.cell (p:=b) hbl).trans hb)).mono ?_;rintro e w' ⟨rfl,rfl⟩;exact⟨rfl,Below.refl _ _⟩)
 rw[List.any_map] at h;exact h
end
end Go.Proofs.YtoigglljnklhlaaGreatDoor
