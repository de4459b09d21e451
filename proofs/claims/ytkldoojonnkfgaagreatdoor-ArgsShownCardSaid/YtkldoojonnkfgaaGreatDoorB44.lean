/- Joined texts: ChooseT. -/
import Derived.Test.YtkldoojonnkfgaaGreatDoorB38
import Derived.Test.YtkldoojonnkfgaaGreatDoorB43
namespace Go.Proofs.YtkldoojonnkfgaaGreatDoor
open Go.RowKit Go.Sort Go.Shelf
attribute [local go_sem] Oper.semAt_some
theorem choicesF_any (s:ByteArray) (a:Option Addr) (n c:Nat) (w:World):Calls Tryz.prog 49 #[.string s,.slice a n c] w fun e w'=>e=.returned (.func (.func 108) #[] #[.pointer (some ⟨w.heap.size,0,none⟩),.pointer (some ⟨w.heap.size+1,0,none⟩)])∧w'=(w.alloc (.cells #[.string s] 9)).alloc (.cells #[.slice a n c] 35):=by
 go_enter Tryz.func49,Tryz.ntmps49
 go_wp2_with fail
 go_ret
 exact ⟨by simp,rfl⟩
def ChRes (r:Ins2 × Int) (w:World) (e:Ending) (w':World):Prop :=
 ∃ v,e=.returned (.tuple #[insV r.1.1 v,.int .i64 r.2])∧Row w' v r.1.2.length (opc r.1.2)∧Below w.heap.size w w'
structure CS (b:Nat) (op:List UInt8) (m:List UInt8) (v:Value) (code:Int) (W:World):Prop where
 r0:W.heap[b]? = some (.cells #[.string ⟨op.toArray⟩] 9 (0,0))
 r1:W.heap[b+1]? = some (.cells #[.string ⟨m.toArray⟩,v] 24 (0,0))
 r2:W.heap[b+1+1]? = some (.cells #[.int .i64 code] 29 (0,0))
theorem CS.keep {b:Nat} {op m:List UInt8} {v:Value} {code:Int} {A B:World} (h:CS b op m v code A) (hk:KeepC 0 A B):CS b op m v code B :=
 ⟨hk.2 _ _ (Nat.zero_le _) h.r0 rfl,hk.2 _ _ (Nat.zero_le _) h.r1 rfl,hk.2 _ _ (Nat.zero_le _) h.r2 rfl⟩
theorem CS.cells {b:Nat} {op m:List UInt8} {v:Value} {code:Int} {W:World} (h:CS b op m v code W):W.cell? ⟨b,0,none⟩=some (.string ⟨op.toArray⟩)∧W.cell? ⟨b+1,0,none⟩=some (.string ⟨m.toArray⟩)∧W.cell? ⟨b+1,1,none⟩=some v∧W.cell? ⟨b+1+1,0,none⟩=some (.int .i64 code)∧W.frozen? ⟨b+1,0,none⟩=false∧W.frozen? ⟨b+1,1,none⟩=false∧W.frozen? ⟨b+1+1,0,none⟩=false∧b+1+1<W.heap.size :=
 ⟨by rw [blk_cell h.r0]; rfl,by rw [blk_cell h.r1]; rfl,by rw [blk_cell h.r1]; rfl,by rw [blk_cell h.r2]; rfl,blk_frozen h.r1 0,blk_frozen h.r1 1,blk_frozen h.r2 0,blk_lt h.r2⟩
theorem CS.store {b:Nat} {op m m':List UInt8} {v v':Value} {code code':Int} {W:World} (h:CS b op m v code W) :
 CS b op m' v' code' (((W.setCell ⟨b+1,0,none⟩ (.string ⟨m'.toArray⟩)).setCell ⟨b+1,1,none⟩ v').setCell ⟨b+1+1,0,none⟩ (.int .i64 code')) :=
 ⟨blk_other (blk_other (blk_other h.r0 (by omega)) (by omega)) (by omega),blk_other (blk_set (blk_set h.r1)) (by omega),blk_set (blk_other (blk_other h.r2 (by omega)) (by omega))⟩
theorem CS.storeB {n b:Nat} {A W:World} (h:Below n A W) (hn:n≤b) (x y z:Value):Below n A (((W.setCell ⟨b+1,0,none⟩ x).setCell ⟨b+1,1,none⟩ y).setCell ⟨b+1+1,0,none⟩ z) :=
 ((h.setCell (p:=⟨b+1,0,none⟩) (by show n≤b+1; omega) _).setCell (p:=⟨b+1,1,none⟩) (by show n≤b+1; omega) _).setCell (p:=⟨b+1+1,0,none⟩) (by show n≤b+1+1; omega) _
theorem cs_new (s:List UInt8) (w:World):CS w.heap.size s [] (.slice none 0 0) 0 (((w.alloc (.cells #[.string ⟨s.toArray⟩] 9)).alloc (.cells #[.string ⟨#[]⟩,.slice none 0 0] 24)).alloc (.cells #[.int .i64 0] 29)) :=
 ⟨blk_alloc (blk_alloc (blk_new _ _)),blk_alloc (blk_new2 _ _ _),by
  have:=blk_new ((w.alloc (.cells #[.string ⟨s.toArray⟩] 9)).alloc (.cells #[.string ⟨#[]⟩,.slice none 0 0] 24)) (.cells #[.int .i64 0] 29)
  simpa only [World.size_alloc] using this⟩
set_option maxRecDepth 100000 in
set_option maxHeartbeats 4000000 in
theorem choose_bad (op:List UInt8) (l:List (Ar × Option Addr)) (v:Value) (w:World) (hT:TabsA w) (hr:Row w v l.length (arc l)) (hop:op.length≤100000) (hup1:upper ⟨op.toArray⟩=⟨op.toArray⟩) (hno:op∉opsL) :
 Calls Tryz.prog 15 #[.string ⟨op.toArray⟩,v] w (ChRes (chooseP op (l.map Prod.fst)) w):=by
 have hf:chooseP op (l.map Prod.fst)=(([],[]),12):=by unfold chooseP; rw [if_pos (.inr hno)]
 rw [hf]
 unfold ChRes
 clear hf
 have hz:(⟨op.toArray⟩:ByteArray).size≤maxLen:=by show op.toArray.size≤_; unfold maxLen; simp; omega
 have hup:=fun X=>upper_any ⟨op.toArray⟩ X hz
 have hkn:=fun X (hb:Below w.heap.size w X)=>knownI_any ⟨op.toArray⟩ X (hT.below hb) hz
 rw [hup1] at hup hkn
 clear hup1
 obtain ⟨a,c,rfl,_,_⟩:=hr
 obtain ⟨V,hV⟩:∃ V,((w.alloc (.cells #[.string ⟨op.toArray⟩] 9)).alloc (.cells #[.string ⟨#[]⟩,.slice none 0 0] 24)).alloc (.cells #[.int .i64 0] 29)=V:=⟨_,rfl⟩
 have hcs:CS w.heap.size op [] (.slice none 0 0) 0 V:=by rw [←hV]; exact cs_new op w
 have hbV:Below w.heap.size w V:=by rw [←hV]; (repeat (first | exact Below.refl _ _ | refine Below.drew ?_ | (refine below_gw' ?_ (by first | omega | (simp [go_sem]; done) | (simp [go_sem]; omega)) _) | (refine Below.alloc ?_ (by first | omega | (simp [go_sem]; done) | (simp [go_sem]; omega)) _) | (refine Below.setCell ?_ (by first | omega | (simp [go_sem]; done) | (simp [go_sem]; omega)) _)))
 have HCS:=Hh hcs; have HBV:=Hh hbV
 have HUP:=Hh hup; have HKN:=Hh hkn
 have hdr:Below V.heap.size V V.drew:=bl
 have hcV:∀ Y,Below V.heap.size V Y→Y.cell? ⟨w.heap.size,0,none⟩=some (.string ⟨op.toArray⟩):=fun Y hb=>(hcs.keep (keepC_below hb)).cells.1
 have HCV:=Hh hcV
 have q0:=hcV _ hdr
 have hfin:∀ X,Below V.heap.size V X→CS w.heap.size op [] (.slice none 0 0) 12 (((X.setCell ⟨w.heap.size+1,0,none⟩ (.string ⟨#[]⟩)).setCell ⟨w.heap.size+1,1,none⟩ (.slice none 0 0)).setCell ⟨w.heap.size+1+1,0,none⟩ (.int .i64 12))∧Below w.heap.size w (((X.setCell ⟨w.heap.size+1,0,none⟩ (.string ⟨#[]⟩)).setCell ⟨w.heap.size+1,1,none⟩ (.slice none 0 0)).setCell ⟨w.heap.size+1+1,0,none⟩ (.int .i64 12))∧CS w.heap.size op [] (.slice none 0 0) 0 X:=fun X hb =>
  ⟨(hcs.keep (keepC_below hb)).store,CS.storeB (hbV.trans (hb.mono hbV.size)) (Nat.le_refl _) _ _ _,hcs.keep (keepC_below hb)⟩
 have HFIN:=Hh hfin
 clear hup hkn hcs hbV hcV hfin
 have hk2:decide ((⟨op.toArray⟩:ByteArray).data.toList∈opsL)=false:=by simpa using hno
 rw [hk2] at HKN
 have hs:=bb_self (⟨op.toArray⟩:ByteArray)
 have hs2:((⟨op.toArray⟩:ByteArray) != ⟨op.toArray⟩)=false:=by unfold bne; rw [hs]; rfl
 clear hno hk2
 go_enter Tryz.func15,Tryz.ntmps15
 go_wp2_with fail
 try rw [hV]
 go_region_held3 (fun w'=>w'.cell? ⟨w.heap.size,0,none⟩=some (.string ⟨op.toArray⟩)) (first | exact HCV.out _ hb5v | exact HCV.out _ hb4v | exact HCV.out _ hdr) (first | ((with_reducible refine (HUP.out _).mono ?_); rintro e w4 ⟨rfl,hb4⟩; have hb4v:Below V.heap.size V w4:=hdr.trans hb4) | ((with_reducible refine (HKN.out _ (HBV.out.trans (hb4v.mono HBV.out.size))).mono ?_); rintro e w5 ⟨rfl,hb5⟩; have hb5v:Below V.heap.size V w5:=hb4v.trans (hb5.mono hb4v.size)))
 obtain ⟨g1,g2,g3⟩:=HFIN.out _ hb5v
 have HG1:=Hh g1; have HG2:=Hh g2
 obtain ⟨_,n0,n1,n2,f0,f1,f2,hl2⟩:=g3.cells
 clear g1 g2 g3 hb4 hb5 hb4v hb5v q0 hV hdr
 go_wp2_with fail
 obtain ⟨_,y0,y1,y2,_,_,_,_⟩:=HG1.out.cells
 exact bodyPost_ret (v:=.tuple #[insV [] (.slice none 0 0),.int .i64 12]) (by simp [results,Tryz.results15,go_sem,y0,y1,y2]) rfl ⟨_,rfl,(WRow.nil _ 0).row,HG2.out⟩
set_option maxRecDepth 100000 in
set_option maxHeartbeats 8000000 in
theorem choose_good (op:List UInt8) (l:List (Ar × Option Addr)) (v:Value) (w:World) (hT:TabsA w) (hr:Row w v l.length (arc l)) (hs:∀ y∈l,y.1.text.size≤1000000) (hl:l.length≤500) (hop:op.length≤1000) (hup1:upper ⟨op.toArray⟩=⟨op.toArray⟩) (hmem:op∈opsL) :
 Calls Tryz.prog 15 #[.string ⟨op.toArray⟩,v] w (ChRes (chooseP op (l.map Prod.fst)) w):=by
 have hf:chooseP op (l.map Prod.fst)=match (choicesP op (l.map Prod.fst)).find? fun c=>legalP (op,c) with | some c=>(canonP (op,c),0) | none=>(([],[]),11):=by
  unfold chooseP
  rw [if_neg (by
   rintro (h | h)
   · apply h; rw [hup1,ByteArray.toList_eq]
   · exact h hmem)]
  rfl
 rw [hf]
 unfold ChRes
 clear hf
 have hz:(⟨op.toArray⟩:ByteArray).size≤maxLen:=by show op.toArray.size≤_; unfold maxLen; simp; omega
 have hup:=fun X=>upper_any ⟨op.toArray⟩ X hz
 have hkn:=fun X (hb:Below w.heap.size w X)=>knownI_any ⟨op.toArray⟩ X (hT.below hb) hz
 have hmk:=fun X v c (h:Row X v (List.length c) (opc c)) (h2:List.length c≤1000)=>make_any ⟨op.toArray⟩ v c X hz h (by omega)
 rw [hup1] at hup hkn hmk
 have hk2:decide ((⟨op.toArray⟩:ByteArray).data.toList∈opsL)=true:=by simpa using hmem
 simp only [hk2] at hkn
 have hs0:=bb_self (⟨op.toArray⟩:ByteArray)
 have hs2:((⟨op.toArray⟩:ByteArray) != ⟨op.toArray⟩)=false:=by unfold bne; rw [hs0]; rfl
 have hseq:=fun n bo bl (hn:1≤n)=>choices_seq n hn op l v bo bl hs (by omega)
 obtain ⟨CH,hCH⟩:∃ CH,choicesP op (l.map Prod.fst)=CH:=⟨_,rfl⟩
 simp only [hCH] at hseq
 rw [hCH]
 obtain ⟨RES,hRES⟩:∃ RES:Ins2 × Int,(match CH.find? fun c=>legalP (op,c) with | some c=>(canonP (op,c),0) | none=>(([],[]),11))=RES:=⟨_,rfl⟩
 rw [hRES]
 have HRES:=Hh hRES; clear hRES
 have HSEQ:=Hh hseq
 have HROW:=Hh hr
 obtain ⟨a,c,rfl,_,_⟩:=hr
 have hcf:=fun X=>choicesF_any ⟨op.toArray⟩ a l.length c X
 obtain ⟨V,hV⟩:∃ V,((w.alloc (.cells #[.string ⟨op.toArray⟩] 9)).alloc (.cells #[.string ⟨#[]⟩,.slice none 0 0] 24)).alloc (.cells #[.int .i64 0] 29)=V:=⟨_,rfl⟩
 have hcs:CS w.heap.size op [] (.slice none 0 0) 0 V:=by rw [←hV]; exact cs_new op w
 have hbV:Below w.heap.size w V:=by rw [←hV]; (repeat (first | exact Below.refl _ _ | refine Below.drew ?_ | (refine below_gw' ?_ (by first | omega | (simp [go_sem]; done) | (simp [go_sem]; omega)) _) | (refine Below.alloc ?_ (by first | omega | (simp [go_sem]; done) | (simp [go_sem]; omega)) _) | (refine Below.setCell ?_ (by first | omega | (simp [go_sem]; done) | (simp [go_sem]; omega)) _)))
 have HCS:=Hh hcs; have HBV:=Hh hbV
 have HUP:=Hh hup; have HKN:=Hh hkn; have HMK:=Hh hmk; have HCF:=Hh hcf
 have HT:=Hh hT
 have hdr:Below V.heap.size V V.drew:=bl
 have hcV:∀ Y,Below V.heap.size V Y→Y.cell? ⟨w.heap.size,0,none⟩=some (.string ⟨op.toArray⟩):=fun Y hb=>(hcs.keep (keepC_below hb)).cells.1
 have HCV:=Hh hcV
 have q0:=hcV _ hdr
 clear hup hkn hcs hbV hcV hmk hseq hCH hcf hT hup1 hmem hk2 hs
 refine (callsIn_wide (n:=3)).1 ?_
 refine callsIn_of_wp_marks Tryz.func15 rfl trivial ?_ rfl
 simp only [Tryz.ntmps15,List.size_toArray,List.length_cons,List.length_nil,Nat.reduceAdd,Nat.reduceSub,Array.replicate_succ,Array.replicate_zero,List.push_toArray,List.append_toArray,List.nil_append,List.cons_append]
 refine wpIn_wide.2 ?_
 go_wp2_with fail
 try rw [hV]
 go_region_held3 (fun w'=>w'.cell? ⟨w.heap.size,0,none⟩=some (.string ⟨op.toArray⟩)) (first | exact HCV.out _ hb5v | exact HCV.out _ hb4v | exact HCV.out _ hdr) (first | ((with_reducible refine (HUP.out _).mono ?_); rintro e w4 ⟨rfl,hb4⟩; have hb4v:Below V.heap.size V w4:=hdr.trans hb4) | ((with_reducible refine (HKN.out _ (HBV.out.trans (hb4v.mono HBV.out.size))).mono ?_); rintro e w5 ⟨rfl,hb5⟩; have hb5v:Below V.heap.size V w5:=hb4v.trans (hb5.mono hb4v.size)))
 have hcs5:=HCS.out.keep (keepC_below hb5v)
 have HCS5:=Hh hcs5
 have HB5:=Hh (HBV.out.trans (hb5v.mono HBV.out.size))
 obtain ⟨z0,_,_,_,_,_,_,hl5⟩:=hcs5.cells
 have hl50:w.heap.size<w5.heap.size:=by omega
 clear hcs5 hb4 hb5 hb4v hb5v q0 hV hdr HCV HCS HBV
 go_wp2_with fail
 (with_reducible refine (HCF.out _).mono ?_)
 rintro e w6 ⟨rfl,hw6⟩
 have gb:w6.heap[w5.heap.size]? = some (.cells #[.string ⟨op.toArray⟩] 9 (0,0)):=by rw [hw6]; exact blk_alloc (blk_new _ _)
 have gl:w6.heap[w5.heap.size+1]? = some (.cells #[.slice a l.length c] 35 (0,0)):=by rw [hw6]; exact blk_new2 _ _ _
 have hal:Below w5.heap.size w5 w6:=by rw [hw6]; exact ((Below.refl _ _).alloc (Nat.le_refl _) _).alloc (by simp) _
 have hb6:=HB5.out.trans (hal.mono HB5.out.size)
 have HCS6:=Hh (HCS5.out.keep (keepC_below hal))
 have HR:=Hh (And.intro gb (And.intro gl (HROW.out.below hb6)))
 have HB6:=Hh hb6
 obtain ⟨b5,hb5e⟩:∃ b5,w5.heap.size=b5:=⟨_,rfl⟩
 rw [hb5e] at HR hl5 ⊢
 have hl6:b5+1<w6.heap.size:=by rw [←hb5e]; exact blk_lt gl
 clear gb gl hal hb6 hw6 hb5e z0 hl50 HCS5 HB5 HCF HUP HKN
 go_wp2_with fail
 have hl5b:w.heap.size+1+1<b5:=hl5
 refine (wpIn_wide (n:=3)).1 ?_
 refine wpIn_rangeFunc_stepsX rfl (by decide) (gf:=108) (lb:=#[.pointer (some ⟨b5,0,none⟩),.pointer (some ⟨b5+1,0,none⟩)]) rfl trivial (enters_of Tryz.func108 (by kernel_rfl) rfl)
  (HSEQ.out 2 b5 (b5+1) (by decide))
  (fun o o'=>⟨blk_alloc (blk_alloc HR.out.1),blk_alloc (blk_alloc HR.out.2.1),HR.out.2.2.below (((Below.refl _ _).alloc (Nat.le_refl _) o).alloc (by rw [World.size_alloc]; omega) o')⟩)
  (fun A B k o h hk _ _=>blk_below hk h (blk_lt hk)) keepC_t (fun W l o o' _ hl hc _=>keepC_b W l o o' hl hc)
  (fun A U X l o o' h1 h2 _ hl hc _=>keepC_t (keepC_mono h1 (Nat.zero_le _)) (keepC_t h2 (keepC_b X l o o' hl hc)))
  (fun x W l o o' h _ hl hc=>⟨h.1.keepC (keepC_b (b:=0) W l o o' hl hc),h.2⟩) (fun _=>rfl)
  (fun pre W=>((∀ rest,(pre.map Prod.fst++rest).find? (fun c=>legalP (op,c))=rest.find? fun c=>legalP (op,c))∧CS w.heap.size op [] (.slice none 0 0) 0 W)∧Below w.heap.size w W)
  (fun cd pre W=>(cd=.ret∧∃ x v',(∀ rest,(pre.map Prod.fst++rest).find? (fun c=>legalP (op,c))=some x)∧CS w.heap.size op op v' 0 W∧Row W v' (canonP (op,x)).2.length (opc (canonP (op,x)).2))∧Below w.heap.size w W)
  ?hI ?hIs ?hIx ?hIxs ⟨⟨fun rest=>rfl,HCS6.out⟩,HB6.out⟩
  (fun x=>{ tmps:=#[.string ⟨op.toArray⟩,.slice a l.length c,.pointer (some ⟨w.heap.size,0,none⟩),undef,.pointer (some ⟨w.heap.size+1,0,none⟩),.pointer (some ⟨w.heap.size+1+1,0,none⟩),x.2,undef,.string ⟨op.toArray⟩,.string ⟨op.toArray⟩,.string ⟨op.toArray⟩,.bool false,.bool false,.string ⟨op.toArray⟩,.bool true,.bool false,.bool false,undef,.string ⟨op.toArray⟩,.slice a l.length c,.func (.func 108) #[] #[.pointer (some ⟨b5,0,none⟩),.pointer (some ⟨b5+1,0,none⟩)],x.2,undef,undef,undef,undef,undef,undef,undef,undef,undef],defers:=[] })
  ?assign ?body ?done ?stop
 case hI=>exact OwnFrom.and (fun s A B row ⟨h1,h2⟩ hg hr=>⟨h1,h2.keep (grown_keepC hg hr)⟩) (ownFrom_below (Nat.le_refl _) HB6.out.size)
 case hIs=>exact fun s A B ⟨⟨h1,h2⟩,h3⟩ hs=>⟨⟨h1,h2.keep (keepC_below hs)⟩,h3.trans (hs.mono h3.size)⟩
 case hIx=>exact fun cd=>OwnFrom.and (fun s A B row ⟨h0,x,v',h1,h2,h3⟩ hg hr=>⟨h0,x,v',h1,h2.keep (grown_keepC hg hr),h3.keepC (grown_keepC hg hr)⟩) (ownFrom_below (Nat.le_refl _) HB6.out.size)
 case hIxs=>exact fun cd s A B ⟨⟨h0,x,v',h1,h2,h3⟩,h4⟩ hs=>⟨⟨h0,x,v',h1,h2.keep (keepC_below hs),h3.below hs⟩,h4.trans (hs.mono h4.size)⟩
 case assign =>
  rintro l ⟨cx,vx⟩ W K hK
  gi_wp2
  exact hK
 case body =>
  rintro lp pre ⟨cx,vx⟩ W ⟨⟨hsc,hcs⟩,hbl⟩ ⟨hgr,hg9⟩ hN
  dsimp only at hgr hg9
  obtain ⟨k0,_,_,_,_,_,_,_⟩:=hcs.cells
  have hmk:=HMK.out W vx cx hgr (by omega)
  have HMKW:=Hh hmk
  have HSC:=Hh hsc; have HC:=Hh hcs; have HBL:=Hh hbl; have HGR:=Hh hgr
  obtain ⟨ax,cpx,rfl,_,_⟩:=hgr
  have hlg:∀ (X:World) (v':Value) (g:Nat),Below w.heap.size w X→Row X (.slice (some ⟨g,0,none⟩) 1 1) 1 [.string ⟨op.toArray⟩,v']→Row X v' cx.length (opc cx)→Calls Tryz.prog 11 #[.slice (some ⟨g,0,none⟩) 1 1] X fun e w'=>e=.returned (.bool (legalP (op,cx)))∧Below X.heap.size X w':=fun X v' g hb h1 h2=>legal_any op v' cx g X (HT.out.below hb) h1 h2 (by omega)
  have hof:∀ (X:World) (v':Value),Below w.heap.size w X→Row X v' cx.length (opc cx)→Calls Tryz.prog 39 #[insV op v'] X fun e w'=>∃ v'',e=.returned (insV op v'')∧WRow w' X.heap.size v'' (canonP (op,cx)).2.length (opc (canonP (op,cx)).2)∧Below X.heap.size X w':=fun X v' hb h2=>of_any op v' cx X (HT.out.below hb) h2 hg9
  obtain ⟨lg,hlgq⟩:∃ lg,legalP (op,cx)=lg:=⟨_,rfl⟩
  rw [hlgq] at hlg
  have HLG:=Hh hlg; have HOF:=Hh hof; have HLQ:=Hh hlgq
  clear hmk hsc hcs hbl hlg hof hlgq hN
  gi_wp2_with fail
  refine ⟨trivial,?_⟩
  refine (CallsIn.inRound lp (callsIn_wide.2 HMKW.out)).mono ?_
  rintro e W2 ⟨v2,rfl,hown2,hb2⟩
  have hrow2:=(WRow.of_owns hown2).row
  obtain ⟨a2,c2,rfl⟩:=owns_slice hown2
  have HROW2:=Hh hrow2; have HB2:=Hh hb2
  have HC2:=Hh (HC.out.keep (keepC_below hb2))
  have HBL2:=Hh (HBL.out.trans (hb2.mono HBL.out.size))
  clear hown2 hrow2 hb2 k0
  gi_wp2_with fail
  refine ⟨trivial,?_⟩
  obtain ⟨X,hX⟩:∃ X,(W2.alloc (.cells #[.string ⟨op.toArray⟩,.slice a2 cx.length c2] 24)).alloc (.cells #[.string ⟨op.toArray⟩,.slice a2 cx.length c2] 24)=X:=⟨_,rfl⟩
  have hbX:Below W2.heap.size W2 X:=by rw [←hX]; exact ((Below.refl _ _).alloc (Nat.le_refl _) _).alloc (by simp) _
  have hx1:X.heap[W2.heap.size]? = some (.cells #[.string ⟨op.toArray⟩,.slice a2 cx.length c2] 24 (0,0)):=by rw [←hX]; exact blk_alloc (blk_new _ _)
  have hx2:Row X (.slice (some ⟨W2.heap.size+1,0,none⟩) 1 1) 1 [.string ⟨op.toArray⟩,.slice a2 cx.length c2]:=by
   have h:=row_struct (W2.alloc (.cells #[.string ⟨op.toArray⟩,.slice a2 cx.length c2] 24)) [.string ⟨op.toArray⟩,.slice a2 cx.length c2] 1 24
   rw [World.size_alloc] at h
   rw [←hX]; exact h
  try rw [hX]
  have hbwX:=HBL2.out.trans (hbX.mono HBL2.out.size)
  refine (CallsIn.inRound lp (callsIn_wide.2 (HLG.out _ _ _ hbwX hx2 (HROW2.out.below hbX)))).mono ?_
  rintro e W3 ⟨rfl,hb3⟩
  have hx3:=blk_below hx1 hb3 (blk_lt hx1)
  have HX3:=Hh hx3
  have HB3:=Hh ((HB2.out.trans (hbX.mono HB2.out.size)).trans (hb3.mono (HB2.out.trans (hbX.mono HB2.out.size)).size))
  have HBL3:=Hh (hbwX.trans (hb3.mono hbwX.size))
  have HC3:=Hh ((HC2.out.keep (keepC_below hbX)).keep (keepC_below hb3))
  have HROW3:=Hh ((HROW2.out.below hbX).below hb3)
  clear hX hbX hx1 hx2 hbwX hb3 hx3
  cases lg with
  | false =>
    gi_wp2_with fail
    exact ⟨keepO_below HB3.out,keepC_below HB3.out,⟨⟨fun rest=>by rw [List.map_append,List.append_assoc,HSC.out]; show List.find? _ (cx::rest)=_; rw [List.find?_cons,HLQ.out],HC3.out⟩,HBL3.out⟩⟩
  | true =>
    obtain ⟨y0,y1,_,_⟩:=cells2 HX3.out
    have hlx:=blk_lt HX3.out
    gi_wp2_with fail
    refine ⟨trivial,?_⟩
    refine (CallsIn.inRound lp (callsIn_wide.2 (HOF.out _ _ HBL3.out HROW3.out))).mono ?_
    rintro e W4 ⟨v4,rfl,hrow4,hb4⟩
    obtain ⟨a4,c4,rfl,_,_⟩:=id hrow4.row
    have hc4:=HC3.out.keep (keepC_below hb4)
    obtain ⟨z0,z1,z2,z3,f1,f2,f3,hl4⟩:=hc4.cells
    have HC4:=Hh hc4
    have HROW4:=Hh hrow4
    have HB4:=Hh (HB3.out.trans (hb4.mono HB3.out.size))
    have HBL4:=Hh (HBL3.out.trans (hb4.mono HBL3.out.size))
    have hgt:w.heap.size+1+1<W3.heap.size:=HC3.out.cells.2.2.2.2.2.2.2
    clear hrow4 hb4 hc4 y0 y1
    gi_wp2_with fail
    refine ⟨?_,⟨⟨rfl,cx,.slice a4 _ c4,fun rest=>by rw [List.map_append,List.append_assoc,HSC.out]; show List.find? _ (cx::rest)=_; rw [List.find?_cons,HLQ.out],HC4.out.store,?_⟩,CS.storeB HBL4.out (Nat.le_refl _) _ _ _⟩,?_⟩
    · with_reducible repeat (refine KeepsOthers.trans ?_ (KeepsOthers.setCell _ _ _))
      exact keepO_below HB4.out
    · exact (((HROW4.out.kb ((((Kb.refl (w.heap.size+1) W4).setCell 0 (.string ⟨op.toArray⟩)).setCell 1 (.slice a4 _ c4))) (by omega)).kb ((Kb.refl (w.heap.size+1+1) _).setCell 0 (.int .i64 0)) (by omega))).row
    · exact keepC_t (keepC_t (keepC_t (keepC_below HB4.out) (keepC_set _ _ (by omega))) (keepC_set _ _ (by omega))) (keepC_set _ _ (by omega))
 case done =>
  rintro D ys W hD hys ⟨⟨hsc,hcs⟩,hbl⟩ hK
  have hres:=hsc []
  rw [List.append_nil,hys] at hres
  have HR2:=Hh (show RES=(([],[]),11) by rw [←HRES.out,show CH.find? (fun c=>legalP (op,c))=none from hres])
  obtain ⟨_,z0,z1,z2,f0,f1,f2,hl2⟩:=hcs.cells
  have hDw:w.heap.size+1+1<D:=by have:=HB6.out.size; omega
  have g1:=CS.store (m':=[]) (v':=.slice none 0 0) (code':=11) hcs
  have g2:=CS.storeB (x:=.string ⟨#[]⟩) (y:=.slice none 0 0) (z:=.int .i64 11) hbl (Nat.le_refl _)
  have g3:(((W.setCell ⟨w.heap.size+1,0,none⟩ (.string ⟨#[]⟩)).setCell ⟨w.heap.size+1,1,none⟩ (.slice none 0 0)).setCell ⟨w.heap.size+1+1,0,none⟩ (.int .i64 11)).heap[D]? = some (.deferred (some [])):=blk_other (blk_other (blk_other hK (by omega)) (by omega)) (by omega)
  have HG1:=Hh g1; have HG2:=Hh g2; have HG3:=Hh g3
  clear hsc hcs hbl hres hys g1 g2 g3
  go_wp2_with fail
  obtain ⟨X,hX⟩:∃ X,((W.setCell ⟨w.heap.size+1,0,none⟩ (.string ⟨#[]⟩)).setCell ⟨w.heap.size+1,1,none⟩ (.slice none 0 0)).setCell ⟨w.heap.size+1+1,0,none⟩ (.int .i64 11)=X:=⟨_,rfl⟩
  rw [hX] at HG1 HG2 HG3
  try rw [hX]
  refine ⟨by simp,.inl ⟨_,_,rfl,run_takeDeferred HG3.out,?_⟩⟩
  have hcs3:=HG1.out.keep (keepC_b (b:=0) X D _ (.deferred none) HG3.out rfl)
  obtain ⟨_,n0,n1,n2,_,_,_,_⟩:=hcs3.cells
  clear hcs3 z0 z1 z2 f0 f1 f2
  refine ⟨.tuple #[insV [] (.slice none 0 0),.int .i64 11],?_,⟨.slice none 0 0,by rw [HR2.out],by rw [HR2.out]; exact (WRow.nil _ 0).row,HG2.out.trans (belowK_b (w:=w) (Nat.le_refl _) X D _ _ (by omega) HG3.out rfl rfl)⟩⟩
  simp [results,Tryz.f15,go_sem,n0,n1,n2]
 case stop =>
  rintro D cd pre W hD hpre ⟨⟨rfl,x,v',hsc,hcs,hrow⟩,hbl⟩ hK
  obtain ⟨rest,hrest⟩:=hpre
  have hres:=hsc rest
  rw [hrest] at hres
  have hDw:w.heap.size≤D:=by have:=HB6.out.size; omega
  have hcs2:=hcs.keep (keepC_b (b:=0) W D _ (.deferred none) hK rfl)
  obtain ⟨_,n0,n1,n2,_,_,_,_⟩:=hcs2.cells
  have hrow2:=hrow.keepC (keepC_b (b:=0) W D _ (.deferred none) hK rfl)
  have HROWX:=Hh hrow2
  have HR2:=Hh (show RES=(canonP (op,x),0) by rw [←HRES.out,show CH.find? (fun c=>legalP (op,c))=some x from hres])
  clear hsc hcs hres hrest hcs2 hrow hrow2
  gi_wp2
  refine ⟨by simp,.inl ⟨_,_,rfl,run_takeDeferred hK,?_⟩⟩
  refine ⟨.tuple #[insV op v',.int .i64 0],?_,⟨v',by rw [HR2.out]; rfl,by rw [HR2.out]; exact HROWX.out,hbl.trans (belowK_b (w:=w) (Nat.le_refl _) W D _ _ hDw hK rfl rfl)⟩⟩
  simp [results,Tryz.f15,go_sem,n0,n1,n2]
theorem choose_any (op:List UInt8) (l:List (Ar × Option Addr)) (v:Value) (w:World) (hT:TabsA w) (hr:Row w v l.length (arc l)) (hs:∀ y∈l,y.1.text.size≤1000000) (hl:l.length≤500) (hop:op.length≤1000) (hup1:upper ⟨op.toArray⟩=⟨op.toArray⟩) :
 Calls Tryz.prog 15 #[.string ⟨op.toArray⟩,v] w (ChRes (chooseP op (l.map Prod.fst)) w):=by
 by_cases h:op∈opsL
 · exact choose_good op l v w hT hr hs hl hop hup1 h
 · exact choose_bad op l v w hT hr (by omega) hup1 h
end Go.Proofs.YtkldoojonnkfgaaGreatDoor
