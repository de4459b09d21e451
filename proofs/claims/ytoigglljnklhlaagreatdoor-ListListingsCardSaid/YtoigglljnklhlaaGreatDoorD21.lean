/- Joined. -/
import Derived.Test.YtoigglljnklhlaaGreatDoorD20
set_option maxHeartbeats 8000000
set_option maxRecDepth 100000
namespace Go.Proofs.YtoigglljnklhlaaGreatDoor
open Go.RowKit Go.Sort Go.Shelf
def fV (b:Nat) (A B:World):Prop:=A.heap.size≤B.heap.size∧∀ (k:Nat) (o:Obj),b≤k→A.heap[k]? = some o→o.isCells=true→B.heap[k]? = some o
theorem wM {b:Nat} {A B C:World} (h:fV b A B) (k:fV b B C):fV b A C:=⟨Nat.le_trans h.1 k.1,fun n o hn ho hc=>k.2 n o hn (h.2 n o hn ho hc) hc⟩
theorem cC {b:Nat} (W:World) (l:Nat) (o o':Obj) (hl:W.heap[l]? = some o) (hc:o.isCells=false):fV b W (W.putObj l o') :=
 ⟨by simp[World.putObj],fun k u _ hu hcu=>by
  refine (World.putObj_heap_other (fun e=>?_)).trans hu;subst e;rw[hl] at hu;cases hu;rw[hc] at hcu;cases hcu⟩
theorem cA {b:Nat} {A B:World} (h:Below A.heap.size A B):fV b A B:=⟨h.size,fun _k _o _ ho _=>aB ho h (aA ho)⟩
theorem WRow.keepC {A B:World} {b n N:Nat} {v:Value} {xs:List Value} (h:WRow A N v n xs) (hk:fV b A B) (hb:b≤N):WRow B N v n xs:=by
 obtain⟨a,cap,hv,hn,h⟩:=h;refine⟨a,cap,hv,hn,fun hx=>?_⟩;obtain⟨g,o,ha,h0,hg,hc,hf⟩:=h hx;have hpos:0<xs.length:=List.length_pos_iff.2 hx;have hc0:=hc 0 hpos;rw[List.getElem?_eq_getElem hpos] at hc0;obtain⟨ob,hob,hcells⟩:=cells_of_cell hc0;have hob':=hk.2 g ob om hob hcells;have he:B.heap[g]? = A.heap[g]? := hob'.trans hob.symm;exact⟨g,o,ha,h0,Nat.lt_of_lt_of_le hg hk.1,fun j hj=>(World.cell?_of_block (a:=⟨g,o+j,none⟩) he).trans (hc j hj),fun j hj=>(World.frozen?_of_block (a:=⟨g,o+j,none⟩) he).trans (hf j hj)⟩
theorem Row.keepC {A B:World} {n:Nat} {v:Value} {xs:List Value} (h:Row A v n xs) (hk:fV 0 A B):Row B v n xs:=by
 obtain⟨a,cap,hv,hn,h⟩:=h;refine⟨a,cap,hv,hn,fun hx=>?_⟩;obtain⟨g,o,ha,hg,hc⟩:=h hx;have hpos:0<xs.length:=List.length_pos_iff.2 hx;have hc0:=hc 0 hpos;rw[List.getElem?_eq_getElem hpos] at hc0;obtain⟨ob,hob,hcells⟩:=cells_of_cell hc0;have hob':=hk.2 g ob (Nat.zero_le _) hob hcells;have he:B.heap[g]? = A.heap[g]? := hob'.trans hob.symm;exact⟨g,o,ha,Nat.lt_of_lt_of_le hg hk.1,fun j hj=>(World.cell?_of_block (a:=⟨g,o+j,none⟩) he).trans (hc j hj)⟩
theorem fG {B:Nat} {W W':World} {row:Option Nat} (hg:W.grownBy W' row) (hr:∀ r,row=some r→B≤r∧∃ o:Obj,W.heap[r]? = some o∧o.isCells=false):fV 0 W W' :=
 ⟨hg.size,fun k o _ ho hc=>(hg.block k (aA ho) (fun e=>by
  obtain⟨_,o',h1,h2⟩:=hr k e.symm;rw[ho] at h1;cases h1;rw[hc] at h2;cases h2)).trans ho⟩
theorem Hi {b g i:Nat} (W:World) (v:Value) (h:g<b):fV b W (W.setCell ⟨g,i,none⟩ v):=⟨by rw[setCell_size];exact Nat.le_refl _,fun k o hk ho _=>aD ho om⟩
theorem tI {X:World} {k:Nat} {o:Obj} (h:X.heap[k]? = some o):X.drew.heap[k]? = some o:=h
theorem lO {A B:World} (h:Below A.heap.size A B):KeepsOthers A B:=⟨h.size,fun _k _o ho _=>aB ho h (aA ho)⟩
end Go.Proofs.YtoigglljnklhlaaGreatDoor
namespace Go.Proofs.YtoigglljnklhlaaGreatDoor
open Go.RowKit Go.Sort Go.Shelf
open Go.Proofs.Tryz
attribute [local go_sem] Oper.semAt_some
theorem gK {A B:World} (h:fV 0 A B):lZ 0 A B:=fun k o _=>h.2 k o (Nat.zero_le _)
theorem uB (bb:Nat) (b:List UInt8) (a:Option Addr) (c:Nat) (w:World) (hbb:w.heap[bb]? = some (.cells #[.slice a b.length c] 33 (0,0))) (hv:Row w (.slice a b.length c) b.length (aT b)) (hl:b.length≤100000) (hT:∀ W,Below w.heap.size w W→TabsA W) :
 Calls prog 81 #[.slice none 0 0,.func (.func 82) #[] #[.pointer (some ⟨bb,0,none⟩)]] w fun e w'=>∃ v its,e=.returned v∧its.map Prod.fst=dI b∧ItsAt w' w.heap.size v its∧Below w.heap.size w w':=by
 obtain⟨i0,hi,hz0,hz1,hz2⟩:=info_parts Tryz.infoItem;have HSEQ:=Hh (fun n hn=>Tr n bb hn b a c w hbb hv hl hT);have hdl:(dI b).length≤100000:=Nat.le_trans (kK b) hl;generalize dI b=L at *;clear hbb hv hT hl;refine (callsIn_wide (n:=3)).1 ?_;refine callsIn_of_wp_marks func81 rfl trivial ?_ rfl;simp only[ntmps81,List.size_toArray,List.length_cons,List.length_nil,Nat.reduceAdd,Nat.reduceSub,Array.replicate_succ,Array.replicate_zero,List.push_toArray,List.append_toArray,List.nil_append,List.cons_append];refine wpIn_wide.2 ?_;go_wp2_with fail
 obtain⟨w1,hw1⟩:∃ w1,w.alloc (.cells #[.slice none 0 0] 29)=w1:=⟨_,rfl⟩;have hb1:Below w.heap.size w w1:=by rw[←hw1];exact br.alloc lr _
 have hx1:Boxed w1 w.heap.size 29 (.slice none 0 0):=by rw[←hw1];exact Boxed.new w _ _
 have hs1:w.heap.size≤w1.heap.size:=hb1.size;rw[hw1];clear hw1;refine (wpIn_wide (n:=3)).1 ?_;refine cM rfl dc (gf:=82) (lb:=#[.pointer (some ⟨bb,0,none⟩)]) rfl trivial (enters_of func82 kr rfl)
  (HSEQ.out 2 dc)
  (fun o o'=>(hb1.alloc hs1 o).alloc (by rw[World.size_alloc];omega) o')
  (fun A B k o h hk _ _=>aB hk h (aA hk)) (fun h k ha=>(h ha).trans (k (Nat.le_trans ha (h ha).size))) (fun W l o o' hl h hc hw _=>belowK_b hs1 W l o o' hl h hc hw) (fun x W l o o' h _ hl hc=>h.on (gK (cC (b:=0) W l o o' hl hc)) (Nat.zero_le _)) (fun _=>rfl)
  (fun pre W=>(∃ v,Boxed W w.heap.size 29 v∧ItsAt W w.heap.size v pre)∧Below w.heap.size w W)
  (fun _ _ _=>False)
  ?hI ?hIs (fun c s A B row h _ _=>h) (fun c s A B h _=>h) ⟨⟨_,hx1,ItsAt.nil _ _⟩,hb1⟩
  (fun x W=>{ tmps:=#[.slice none 0 0,.func (.func 82) #[] #[.pointer (some ⟨bb,0,none⟩)],.pointer (some ⟨w.heap.size,0,none⟩),undef,.slice none 0 0,.pointer (some ⟨W.heap.size,0,none⟩),.func (.func 82) #[] #[.pointer (some ⟨bb,0,none⟩)],itV x.1 x.2.1 x.2.2,undef,undef,undef,undef,undef],defers:=[] })
  (fun x W=>W.alloc (.cells #[.int .i64 x.1.kind,x.2.1,.string ⟨x.1.ins.1.toArray⟩,x.2.2,.bool x.1.alias] 55))
  (fun x a' W=>∃ k,a'={ tmps:=#[.slice none 0 0,.func (.func 82) #[] #[.pointer (some ⟨bb,0,none⟩)],.pointer (some ⟨w.heap.size,0,none⟩),undef,.slice none 0 0,.pointer (some ⟨k,0,none⟩),.func (.func 82) #[] #[.pointer (some ⟨bb,0,none⟩)],itV x.1 x.2.1 x.2.2,undef,undef,undef,undef,undef],defers:=[] }∧W.heap[k]? = some (.cells #[.int .i64 x.1.kind,x.2.1,.string ⟨x.1.ins.1.toArray⟩,x.2.2,.bool x.1.alias] 55 (0,0)))
  ?assign (fun x W=>br.alloc lr _) (fun x W ha=>br.alloc ha _) (fun x W h=>h.below (br.alloc lr _)) (fun x W=>⟨_,rfl,aF _ _⟩) (fun x a' W l o o' ⟨k,h1,h2⟩ _ hl hc=>⟨k,h1,(cC (b:=0) W l o o' hl hc).2 _ _ (Nat.zero_le _) h2 rfl⟩) ?body ?done (fun D cd pre W _ _ h _=>h.elim)
 case hI=>exact OwnFrom.and (fun s A B row ⟨v,h1,h2⟩ hg hr=>⟨v,(fG hg hr).2 _ _ (Nat.zero_le _) h1 rfl,h2.on (gK (fG hg hr)) (Nat.zero_le _)⟩) (ownFrom_below lr hs1)
 case hIs=>exact fun s A B ⟨⟨v,h1,h2⟩,h3⟩ hs=>⟨⟨v,aB h1 hs (aA h1),h2.below hs⟩,h3.trans (hs.mono h3.size)⟩
 case assign =>
  rintro l ⟨⟨ki,ra,⟨im,ia⟩,ial⟩,vr,va⟩ W K hg hK;dsimp only at hg;obtain⟨ar,cr,rfl⟩:=aI hg.raw;obtain⟨aa,ca,rfl⟩:=hg.args.slice;dsimp only[itV] at hK ⊢;gi_wp2
  exact hK
 case body =>
  rintro lp pre ⟨⟨ki,ra,⟨im,ia⟩,ial⟩,vr,va⟩ a' W ⟨⟨v,hbox,hits⟩,hbl⟩ hgv ⟨k,rfl,hk⟩ hN;dsimp only at hgv hk hN;obtain⟨ar,cr,rfl⟩:=aI hgv.raw;obtain⟨aa,ca,rfl⟩:=hgv.args.slice;dsimp only[itV];have HBOX:=Hh hbox;have HITS:=Hh hits;have HBL:=Hh hbl;have HGV:=Hh hgv;have c0:=hbox.cell;have f0:=hbox.frozen;have hlb:=hbox.lt;obtain⟨⟨q0,q1,q2,q3,q4⟩,_⟩:=bJ hk;have hlk:=aA hk;obtain⟨av,cv,rfl⟩:=aI hits.own;clear hbox hits hbl hgv hk;have hpl:pre.length≤100000:=om
  have hbw:=HBL.out.size;gi_wp2_with (gi_at_builtin;refine wpListIn_append_own _ rfl _ _ 29 rfl w.heap.size 55 i0 (.agg #[.int .i64 0,.slice none 0 0,.string ⟨#[]⟩,.slice none 0 0,.bool false]) 5 80 underlying29 hi hz0 hz1 hz2 rfl dc _ _ _ rfl (HITS.out.own.alloc _) ⟨W.heap.size,0,none⟩ 1 1 [.int .i64 ki,.slice ar ra.length cr,.string ⟨im.toArray⟩,.slice aa ia.length ca,.bool ial] rfl rfl (xP _ _ _ _ _ _ _) aAz (by unfold maxLen;omega) om (by simp;omega) ?_;intro v' w3 hown' hg3 _;obtain⟨g',cap',rfl⟩:=ownsRow_succ hown';have hv1:=(HBOX.out.alloc (.cells #[.int .i64 ki,.slice ar ra.length cr,.string ⟨im.toArray⟩,.slice aa ia.length ca,.bool ial] 55)).kept hg3 (HBOX.out.not_row dc HITS.out.own);have hc1:=hv1.cell;have hf1:=hv1.frozen)
  obtain⟨_,hv2,_,hk2,hb2⟩:=HBOX.out.appended dc HITS.out.own hbw lr hown' hg3;have hal:Below W.heap.size W (W.alloc (.cells #[.int .i64 ki,.slice ar ra.length cr,.string ⟨im.toArray⟩,.slice aa ia.length ca,.bool ial] 55)):=br.alloc lr _;have hits3:=(HITS.out.below hal).snoc (x:=(⟨ki,ra,(im,ia),ial⟩,.slice ar ra.length cr,.slice aa ia.length ca)) (HGV.out.below hal) hown' hg3;refine⟨hk2,fun _=>hb2,⟨_,hv2,?_⟩,HBL.out.trans hb2⟩;have hlen:(pre++[((⟨ki,ra,(im,ia),ial⟩,.slice ar ra.length cr,.slice aa ia.length ca):ItX)]).length=pre.length+1:=by simp
  exact hits3.kept (grownBy_setCell' w3 w.heap.size _) hv1 (fun c m=>⟨fun e=>(by cases e),fun e=>(by cases e),fun e=>(by cases e)⟩)
 case done =>
  rintro D xs W hD hxs ⟨⟨v,hbox,hits⟩,hbl⟩ hK;have HITS:=Hh hits;have HBL:=Hh hbl;have HXS:=Hh hxs;have c0:=hbox.cell;have hlb:=hbox.lt;obtain⟨av,cv,rfl⟩:=aI hits.own;clear hits hbl hxs hbox;go_wp2_with fail
  have hits:=HITS.out;refine⟨by simp,.inl ⟨_,_,rfl,run_takeDeferred hK,?_⟩⟩
  refine⟨.slice av xs.length cv,by simp[results,Tryz.f81,go_sem],_,xs,rfl,HXS.out,hits.on (gK (cC (b:=0) W D _ _ hK rfl)) (Nat.zero_le _),HBL.out.trans (belowK_b (w:=w) lr W D _ _ om hK rfl rfl)⟩
end Go.Proofs.YtoigglljnklhlaaGreatDoor
namespace Go.Proofs.YtoigglljnklhlaaGreatDoor
open Go.RowKit Go.Sort
open Go.Proofs.Tryz
theorem uA (bb:Nat) (b:List UInt8) (a:Option Addr) (c:Nat) (w:World) (hbb:w.heap[bb]? = some (.cells #[.slice a b.length c] 33 (0,0))) (hv:Row w (.slice a b.length c) b.length (aT b)) (hl:b.length≤100000) (hT:∀ W,Below w.heap.size w W→TabsA W) :
 Calls prog 48 #[.func (.func 82) #[] #[.pointer (some ⟨bb,0,none⟩)]] w fun e w'=>∃ v its,e=.returned v∧its.map Prod.fst=dI b∧ItsAt w' w.heap.size v its∧Below w.heap.size w w':=by
 have HS:=Hh (uB bb b a c w hbb hv hl hT);clear hbb hv hl hT;go_enter func48,ntmps48
 go_wp2_with fail
 (with_reducible refine HS.out.mono ?_);rintro e w1 ⟨v,its,rfl,h1,h2,h3⟩;have H1:=Hh h1;have H2:=Hh h2;have H3:=Hh h3;clear h1 h2 h3;go_wp2_with fail
 go_ret;exact⟨v,its,rfl,H1.out,H2.out,H3.out⟩
theorem Pn (a:Option Addr) (n c:Nat) (w:World):Calls prog 49 #[.slice a n c] w fun e w'=>e=.returned (.func (.func 82) #[] #[.pointer (some ⟨w.heap.size,0,none⟩)])∧w'=w.alloc (.cells #[.slice a n c] 33):=by
 go_enter func49,ntmps49
 go_wp2_with fail
 go_ret;exact⟨rfl,rfl⟩
theorem Dg (b:List UInt8) (v:Value) (w:World) (hv:Row w v b.length (aT b)) (hl:b.length≤100000) (hT:∀ W,Below w.heap.size w W→TabsA W) :
 Calls prog 26 #[v] w fun e w'=>∃ v' its,e=.returned v'∧its.map Prod.fst=dI b∧ItsAt w' w.heap.size v' its∧Below w.heap.size w w':=by
 have hv2:=hv;obtain⟨a,c,rfl,_,_⟩:=hv;have hal:Below w.heap.size w (w.alloc (.cells #[.slice a b.length c] 33)):=br.alloc lr _;have HC:=Hh (uA w.heap.size b a c (w.alloc (.cells #[.slice a b.length c] 33)) (aF _ _) (hv2.below hal) hl (fun W h=>hT W (hal.trans (h.mono sm))));have HAL:=Hh hal;clear hv2 hT hal;go_enter func26,ntmps26
 go_wp2_with fail
 (with_reducible refine (Pn a b.length c w).mono ?_);rintro e w1 ⟨rfl,rfl⟩;go_wp2_with fail
 (with_reducible refine HC.out.mono ?_);rintro e w2 ⟨v',its,rfl,h1,h2,h3⟩;have H1:=Hh h1;have H2:=Hh h2;have H3:=Hh (HAL.out.trans (h3.mono HAL.out.size));clear h1 h2 h3;go_wp2_with fail
 go_ret;exact⟨v',its,rfl,H1.out,H2.out.mono (by rw[World.size_alloc];omega),H3.out⟩
end Go.Proofs.YtoigglljnklhlaaGreatDoor
