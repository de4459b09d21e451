/- Joined texts: ChooseT, CodeT, StmtT. -/
import Derived.Test.YtkldoojonnkfgaaGreatDoorC40
namespace Go.Proofs.YtkldoojonnkfgaaGreatDoor
open Go.RowKit Go.Sort Go.Shelf
attribute [local go_sem] Oper.semAt_some
theorem choicesF_any (s:ByteArray) (a:Option Addr) (n c:Nat) (w:World):Calls Tryz.prog 49 #[.string s,.slice a n c] w fun e w'=>e=.returned (.func (.func 108) #[] #[.pointer (some ⟨w.heap.size,0,none⟩),.pointer (some ⟨w.heap.size+1,0,none⟩)])∧w'=(w.alloc (.cells #[.string s] 9)).alloc (.cells #[.slice a n c] 35):=by
 go_enter Tryz.func49,Tryz.ntmps49
 go_wp2_with fail
 go_ret
 exact ⟨by simp,rfl⟩
def ChRes (r:Ins2 × Int) (w:World) (e:Ending) (w':World):Prop :=
 ∃ v,e=.returned (.tuple #[insV r.1.1 v,.int .i64 r.2])∧Row w' v r.1.2.length (opc r.1.2)∧Below w.heap.size w w'
structure CS (b:Nat) (op:List UInt8) (m:List UInt8) (v:Value) (code:Int) (W:World):Prop where
 r0:W.heap[b]? = some (.cells #[.string ⟨op.toArray⟩] 9 (0,0))
 r1:W.heap[b+1]? = some (.cells #[.string ⟨m.toArray⟩,v] 24 (0,0))
 r2:W.heap[b+1+1]? = some (.cells #[.int .i64 code] 29 (0,0))
theorem CS.keep {b:Nat} {op m:List UInt8} {v:Value} {code:Int} {A B:World} (h:CS b op m v code A) (hk:KeepC 0 A B):CS b op m v code B :=
 ⟨hk.2 _ _ (Nat.zero_le _) h.r0 rfl,hk.2 _ _ (Nat.zero_le _) h.r1 rfl,hk.2 _ _ (Nat.zero_le _) h.r2 rfl⟩
theorem CS.cells {b:Nat} {op m:List UInt8} {v:Value} {code:Int} {W:World} (h:CS b op m v code W):W.cell? ⟨b,0,none⟩=some (.string ⟨op.toArray⟩)∧W.cell? ⟨b+1,0,none⟩=some (.string ⟨m.toArray⟩)∧W.cell? ⟨b+1,1,none⟩=some v∧W.cell? ⟨b+1+1,0,none⟩=some (.int .i64 code)∧W.frozen? ⟨b+1,0,none⟩=false∧W.frozen? ⟨b+1,1,none⟩=false∧W.frozen? ⟨b+1+1,0,none⟩=false∧b+1+1<W.heap.size :=
 ⟨by rw [blk_cell h.r0]; rfl,by rw [blk_cell h.r1]; rfl,by rw [blk_cell h.r1]; rfl,by rw [blk_cell h.r2]; rfl,blk_frozen h.r1 0,blk_frozen h.r1 1,blk_frozen h.r2 0,blk_lt h.r2⟩
theorem CS.store {b:Nat} {op m m':List UInt8} {v v':Value} {code code':Int} {W:World} (h:CS b op m v code W) :
 CS b op m' v' code' (((W.setCell ⟨b+1,0,none⟩ (.string ⟨m'.toArray⟩)).setCell ⟨b+1,1,none⟩ v').setCell ⟨b+1+1,0,none⟩ (.int .i64 code')) :=
 ⟨blk_other (blk_other (blk_other h.r0 (by omega)) (by omega)) (by omega),blk_other (blk_set (blk_set h.r1)) (by omega),blk_set (blk_other (blk_other h.r2 (by omega)) (by omega))⟩
theorem CS.storeB {n b:Nat} {A W:World} (h:Below n A W) (hn:n≤b) (x y z:Value):Below n A (((W.setCell ⟨b+1,0,none⟩ x).setCell ⟨b+1,1,none⟩ y).setCell ⟨b+1+1,0,none⟩ z) :=
 ((h.setCell (p:=⟨b+1,0,none⟩) (by show n≤b+1; omega) _).setCell (p:=⟨b+1,1,none⟩) (by show n≤b+1; omega) _).setCell (p:=⟨b+1+1,0,none⟩) (by show n≤b+1+1; omega) _
theorem cs_new (s:List UInt8) (w:World):CS w.heap.size s [] (.slice none 0 0) 0 (((w.alloc (.cells #[.string ⟨s.toArray⟩] 9)).alloc (.cells #[.string ⟨#[]⟩,.slice none 0 0] 24)).alloc (.cells #[.int .i64 0] 29)) :=
 ⟨blk_alloc (blk_alloc (blk_new _ _)),blk_alloc (blk_new2 _ _ _),by
  have:=blk_new ((w.alloc (.cells #[.string ⟨s.toArray⟩] 9)).alloc (.cells #[.string ⟨#[]⟩,.slice none 0 0] 24)) (.cells #[.int .i64 0] 29)
  simpa only [World.size_alloc] using this⟩
set_option maxRecDepth 100000 in
set_option maxHeartbeats 4000000 in
theorem choose_bad (op:List UInt8) (l:List (Ar × Option Addr)) (v:Value) (w:World) (hT:TabsA w) (hr:Row w v l.length (arc l)) (hop:op.length≤100000) (hup1:upper ⟨op.toArray⟩=⟨op.toArray⟩) (hno:op∉opsL) :
 Calls Tryz.prog 15 #[.string ⟨op.toArray⟩,v] w (ChRes (chooseP op (l.map Prod.fst)) w):=by
 have hf:chooseP op (l.map Prod.fst)=(([],[]),12):=by unfold chooseP; rw [if_pos (.inr hno)]
 rw [hf]
 unfold ChRes
 clear hf
 have hz:(⟨op.toArray⟩:ByteArray).size≤maxLen:=by show op.toArray.size≤_; unfold maxLen; simp; omega
 have hup:=fun X=>upper_any ⟨op.toArray⟩ X hz
 have hkn:=fun X (hb:Below w.heap.size w X)=>knownI_any ⟨op.toArray⟩ X (hT.below hb) hz
 rw [hup1] at hup hkn
 clear hup1
 obtain ⟨a,c,rfl,_,_⟩:=hr
 obtain ⟨V,hV⟩:∃ V,((w.alloc (.cells #[.string ⟨op.toArray⟩] 9)).alloc (.cells #[.string ⟨#[]⟩,.slice none 0 0] 24)).alloc (.cells #[.int .i64 0] 29)=V:=⟨_,rfl⟩
 have hcs:CS w.heap.size op [] (.slice none 0 0) 0 V:=by rw [←hV]; exact cs_new op w
 have hbV:Below w.heap.size w V:=by rw [←hV]; (repeat (first | exact Below.refl _ _ | refine Below.drew ?_ | (refine below_gw' ?_ (by first | omega | (simp [go_sem]; done) | (simp [go_sem]; omega)) _) | (refine Below.alloc ?_ (by first | omega | (simp [go_sem]; done) | (simp [go_sem]; omega)) _) | (refine Below.setCell ?_ (by first | omega | (simp [go_sem]; done) | (simp [go_sem]; omega)) _)))
 have HCS:=Hh hcs; have HBV:=Hh hbV
 have HUP:=Hh hup; have HKN:=Hh hkn
 have hdr:Below V.heap.size V V.drew:=bl
 have hcV:∀ Y,Below V.heap.size V Y→Y.cell? ⟨w.heap.size,0,none⟩=some (.string ⟨op.toArray⟩):=fun Y hb=>(hcs.keep (keepC_below hb)).cells.1
 have HCV:=Hh hcV
 have q0:=hcV _ hdr
 have hfin:∀ X,Below V.heap.size V X→CS w.heap.size op [] (.slice none 0 0) 12 (((X.setCell ⟨w.heap.size+1,0,none⟩ (.string ⟨#[]⟩)).setCell ⟨w.heap.size+1,1,none⟩ (.slice none 0 0)).setCell ⟨w.heap.size+1+1,0,none⟩ (.int .i64 12))∧Below w.heap.size w (((X.setCell ⟨w.heap.size+1,0,none⟩ (.string ⟨#[]⟩)).setCell ⟨w.heap.size+1,1,none⟩ (.slice none 0 0)).setCell ⟨w.heap.size+1+1,0,none⟩ (.int .i64 12))∧CS w.heap.size op [] (.slice none 0 0) 0 X:=fun X hb =>
  ⟨(hcs.keep (keepC_below hb)).store,CS.storeB (hbV.trans (hb.mono hbV.size)) (Nat.le_refl _) _ _ _,hcs.keep (keepC_below hb)⟩
 have HFIN:=Hh hfin
 clear hup hkn hcs hbV hcV hfin
 have hk2:decide ((⟨op.toArray⟩:ByteArray).data.toList∈opsL)=false:=by simpa using hno
 rw [hk2] at HKN
 have hs:=bb_self (⟨op.toArray⟩:ByteArray)
 have hs2:((⟨op.toArray⟩:ByteArray) != ⟨op.toArray⟩)=false:=by unfold bne; rw [hs]; rfl
 clear hno hk2
 go_enter Tryz.func15,Tryz.ntmps15
 go_wp2_with fail
 try rw [hV]
 go_region_held3 (fun w'=>w'.cell? ⟨w.heap.size,0,none⟩=some (.string ⟨op.toArray⟩)) (first | exact HCV.out _ hb5v | exact HCV.out _ hb4v | exact HCV.out _ hdr) (first | ((with_reducible refine (HUP.out _).mono ?_); rintro e w4 ⟨rfl,hb4⟩; have hb4v:Below V.heap.size V w4:=hdr.trans hb4) | ((with_reducible refine (HKN.out _ (HBV.out.trans (hb4v.mono HBV.out.size))).mono ?_); rintro e w5 ⟨rfl,hb5⟩; have hb5v:Below V.heap.size V w5:=hb4v.trans (hb5.mono hb4v.size)))
 obtain ⟨g1,g2,g3⟩:=HFIN.out _ hb5v
 have HG1:=Hh g1; have HG2:=Hh g2
 obtain ⟨_,n0,n1,n2,f0,f1,f2,hl2⟩:=g3.cells
 clear g1 g2 g3 hb4 hb5 hb4v hb5v q0 hV hdr
 go_wp2_with fail
 obtain ⟨_,y0,y1,y2,_,_,_,_⟩:=HG1.out.cells
 exact bodyPost_ret (v:=.tuple #[insV [] (.slice none 0 0),.int .i64 12]) (by simp [results,Tryz.results15,go_sem,y0,y1,y2]) rfl ⟨_,rfl,(WRow.nil _ 0).row,HG2.out⟩
set_option maxRecDepth 100000 in
set_option maxHeartbeats 8000000 in
theorem choose_good (op:List UInt8) (l:List (Ar × Option Addr)) (v:Value) (w:World) (hT:TabsA w) (hr:Row w v l.length (arc l)) (hs:∀ y∈l,y.1.text.size≤1000000) (hl:l.length≤500) (hop:op.length≤1000) (hup1:upper ⟨op.toArray⟩=⟨op.toArray⟩) (hmem:op∈opsL) :
 Calls Tryz.prog 15 #[.string ⟨op.toArray⟩,v] w (ChRes (chooseP op (l.map Prod.fst)) w):=by
 have hf:chooseP op (l.map Prod.fst)=match (choicesP op (l.map Prod.fst)).find? fun c=>legalP (op,c) with | some c=>(canonP (op,c),0) | none=>(([],[]),11):=by
  unfold chooseP
  rw [if_neg (by
   rintro (h | h)
   · apply h; rw [hup1,ByteArray.toList_eq]
   · exact h hmem)]
  rfl
 rw [hf]
 unfold ChRes
 clear hf
 have hz:(⟨op.toArray⟩:ByteArray).size≤maxLen:=by show op.toArray.size≤_; unfold maxLen; simp; omega
 have hup:=fun X=>upper_any ⟨op.toArray⟩ X hz
 have hkn:=fun X (hb:Below w.heap.size w X)=>knownI_any ⟨op.toArray⟩ X (hT.below hb) hz
 have hmk:=fun X v c (h:Row X v (List.length c) (opc c)) (h2:List.length c≤1000)=>make_any ⟨op.toArray⟩ v c X hz h (by omega)
 rw [hup1] at hup hkn hmk
 have hk2:decide ((⟨op.toArray⟩:ByteArray).data.toList∈opsL)=true:=by simpa using hmem
 simp only [hk2] at hkn
 have hs0:=bb_self (⟨op.toArray⟩:ByteArray)
 have hs2:((⟨op.toArray⟩:ByteArray) != ⟨op.toArray⟩)=false:=by unfold bne; rw [hs0]; rfl
 have hseq:=fun n bo bl (hn:1≤n)=>choices_seq n hn op l v bo bl hs (by omega)
 obtain ⟨CH,hCH⟩:∃ CH,choicesP op (l.map Prod.fst)=CH:=⟨_,rfl⟩
 simp only [hCH] at hseq
 rw [hCH]
 obtain ⟨RES,hRES⟩:∃ RES:Ins2 × Int,(match CH.find? fun c=>legalP (op,c) with | some c=>(canonP (op,c),0) | none=>(([],[]),11))=RES:=⟨_,rfl⟩
 rw [hRES]
 have HRES:=Hh hRES; clear hRES
 have HSEQ:=Hh hseq
 have HROW:=Hh hr
 obtain ⟨a,c,rfl,_,_⟩:=hr
 have hcf:=fun X=>choicesF_any ⟨op.toArray⟩ a l.length c X
 obtain ⟨V,hV⟩:∃ V,((w.alloc (.cells #[.string ⟨op.toArray⟩] 9)).alloc (.cells #[.string ⟨#[]⟩,.slice none 0 0] 24)).alloc (.cells #[.int .i64 0] 29)=V:=⟨_,rfl⟩
 have hcs:CS w.heap.size op [] (.slice none 0 0) 0 V:=by rw [←hV]; exact cs_new op w
 have hbV:Below w.heap.size w V:=by rw [←hV]; (repeat (first | exact Below.refl _ _ | refine Below.drew ?_ | (refine below_gw' ?_ (by first | omega | (simp [go_sem]; done) | (simp [go_sem]; omega)) _) | (refine Below.alloc ?_ (by first | omega | (simp [go_sem]; done) | (simp [go_sem]; omega)) _) | (refine Below.setCell ?_ (by first | omega | (simp [go_sem]; done) | (simp [go_sem]; omega)) _)))
 have HCS:=Hh hcs; have HBV:=Hh hbV
 have HUP:=Hh hup; have HKN:=Hh hkn; have HMK:=Hh hmk; have HCF:=Hh hcf
 have HT:=Hh hT
 have hdr:Below V.heap.size V V.drew:=bl
 have hcV:∀ Y,Below V.heap.size V Y→Y.cell? ⟨w.heap.size,0,none⟩=some (.string ⟨op.toArray⟩):=fun Y hb=>(hcs.keep (keepC_below hb)).cells.1
 have HCV:=Hh hcV
 have q0:=hcV _ hdr
 clear hup hkn hcs hbV hcV hmk hseq hCH hcf hT hup1 hmem hk2 hs
 refine (callsIn_wide (n:=3)).1 ?_
 refine callsIn_of_wp_marks Tryz.func15 rfl trivial ?_ rfl
 simp only [Tryz.ntmps15,List.size_toArray,List.length_cons,List.length_nil,Nat.reduceAdd,Nat.reduceSub,Array.replicate_succ,Array.replicate_zero,List.push_toArray,List.append_toArray,List.nil_append,List.cons_append]
 refine wpIn_wide.2 ?_
 go_wp2_with fail
 try rw [hV]
 go_region_held3 (fun w'=>w'.cell? ⟨w.heap.size,0,none⟩=some (.string ⟨op.toArray⟩)) (first | exact HCV.out _ hb5v | exact HCV.out _ hb4v | exact HCV.out _ hdr) (first | ((with_reducible refine (HUP.out _).mono ?_); rintro e w4 ⟨rfl,hb4⟩; have hb4v:Below V.heap.size V w4:=hdr.trans hb4) | ((with_reducible refine (HKN.out _ (HBV.out.trans (hb4v.mono HBV.out.size))).mono ?_); rintro e w5 ⟨rfl,hb5⟩; have hb5v:Below V.heap.size V w5:=hb4v.trans (hb5.mono hb4v.size)))
 have hcs5:=HCS.out.keep (keepC_below hb5v)
 have HCS5:=Hh hcs5
 have HB5:=Hh (HBV.out.trans (hb5v.mono HBV.out.size))
 obtain ⟨z0,_,_,_,_,_,_,hl5⟩:=hcs5.cells
 have hl50:w.heap.size<w5.heap.size:=by omega
 clear hcs5 hb4 hb5 hb4v hb5v q0 hV hdr HCV HCS HBV
 go_wp2_with fail
 (with_reducible refine (HCF.out _).mono ?_)
 rintro e w6 ⟨rfl,hw6⟩
 have gb:w6.heap[w5.heap.size]? = some (.cells #[.string ⟨op.toArray⟩] 9 (0,0)):=by rw [hw6]; exact blk_alloc (blk_new _ _)
 have gl:w6.heap[w5.heap.size+1]? = some (.cells #[.slice a l.length c] 35 (0,0)):=by rw [hw6]; exact blk_new2 _ _ _
 have hal:Below w5.heap.size w5 w6:=by rw [hw6]; exact ((Below.refl _ _).alloc (Nat.le_refl _) _).alloc (by simp) _
 have hb6:=HB5.out.trans (hal.mono HB5.out.size)
 have HCS6:=Hh (HCS5.out.keep (keepC_below hal))
 have HR:=Hh (And.intro gb (And.intro gl (HROW.out.below hb6)))
 have HB6:=Hh hb6
 obtain ⟨b5,hb5e⟩:∃ b5,w5.heap.size=b5:=⟨_,rfl⟩
 rw [hb5e] at HR hl5 ⊢
 have hl6:b5+1<w6.heap.size:=by rw [←hb5e]; exact blk_lt gl
 clear gb gl hal hb6 hw6 hb5e z0 hl50 HCS5 HB5 HCF HUP HKN
 go_wp2_with fail
 have hl5b:w.heap.size+1+1<b5:=hl5
 refine (wpIn_wide (n:=3)).1 ?_
 refine wpIn_rangeFunc_stepsX rfl (by decide) (gf:=108) (lb:=#[.pointer (some ⟨b5,0,none⟩),.pointer (some ⟨b5+1,0,none⟩)]) rfl trivial (enters_of Tryz.func108 (by kernel_rfl) rfl)
  (HSEQ.out 2 b5 (b5+1) (by decide))
  (fun o o'=>⟨blk_alloc (blk_alloc HR.out.1),blk_alloc (blk_alloc HR.out.2.1),HR.out.2.2.below (((Below.refl _ _).alloc (Nat.le_refl _) o).alloc (by rw [World.size_alloc]; omega) o')⟩)
  (fun A B k o h hk _ _=>blk_below hk h (blk_lt hk)) keepC_t (fun W l o o' _ hl hc _=>keepC_b W l o o' hl hc)
  (fun A U X l o o' h1 h2 _ hl hc _=>keepC_t (keepC_mono h1 (Nat.zero_le _)) (keepC_t h2 (keepC_b X l o o' hl hc)))
  (fun x W l o o' h _ hl hc=>⟨h.1.keepC (keepC_b (b:=0) W l o o' hl hc),h.2⟩) (fun _=>rfl)
  (fun pre W=>((∀ rest,(pre.map Prod.fst++rest).find? (fun c=>legalP (op,c))=rest.find? fun c=>legalP (op,c))∧CS w.heap.size op [] (.slice none 0 0) 0 W)∧Below w.heap.size w W)
  (fun cd pre W=>(cd=.ret∧∃ x v',(∀ rest,(pre.map Prod.fst++rest).find? (fun c=>legalP (op,c))=some x)∧CS w.heap.size op op v' 0 W∧Row W v' (canonP (op,x)).2.length (opc (canonP (op,x)).2))∧Below w.heap.size w W)
  ?hI ?hIs ?hIx ?hIxs ⟨⟨fun rest=>rfl,HCS6.out⟩,HB6.out⟩
  (fun x=>{ tmps:=#[.string ⟨op.toArray⟩,.slice a l.length c,.pointer (some ⟨w.heap.size,0,none⟩),undef,.pointer (some ⟨w.heap.size+1,0,none⟩),.pointer (some ⟨w.heap.size+1+1,0,none⟩),x.2,undef,.string ⟨op.toArray⟩,.string ⟨op.toArray⟩,.string ⟨op.toArray⟩,.bool false,.bool false,.string ⟨op.toArray⟩,.bool true,.bool false,.bool false,undef,.string ⟨op.toArray⟩,.slice a l.length c,.func (.func 108) #[] #[.pointer (some ⟨b5,0,none⟩),.pointer (some ⟨b5+1,0,none⟩)],x.2,undef,undef,undef,undef,undef,undef,undef,undef,undef],defers:=[] })
  ?assign ?body ?done ?stop
 case hI=>exact OwnFrom.and (fun s A B row ⟨h1,h2⟩ hg hr=>⟨h1,h2.keep (grown_keepC hg hr)⟩) (ownFrom_below (Nat.le_refl _) HB6.out.size)
 case hIs=>exact fun s A B ⟨⟨h1,h2⟩,h3⟩ hs=>⟨⟨h1,h2.keep (keepC_below hs)⟩,h3.trans (hs.mono h3.size)⟩
 case hIx=>exact fun cd=>OwnFrom.and (fun s A B row ⟨h0,x,v',h1,h2,h3⟩ hg hr=>⟨h0,x,v',h1,h2.keep (grown_keepC hg hr),h3.keepC (grown_keepC hg hr)⟩) (ownFrom_below (Nat.le_refl _) HB6.out.size)
 case hIxs=>exact fun cd s A B ⟨⟨h0,x,v',h1,h2,h3⟩,h4⟩ hs=>⟨⟨h0,x,v',h1,h2.keep (keepC_below hs),h3.below hs⟩,h4.trans (hs.mono h4.size)⟩
 case assign =>
  rintro l ⟨cx,vx⟩ W K hK
  gi_wp2
  exact hK
 case body =>
  rintro lp pre ⟨cx,vx⟩ W ⟨⟨hsc,hcs⟩,hbl⟩ ⟨hgr,hg9⟩ hN
  dsimp only at hgr hg9
  obtain ⟨k0,_,_,_,_,_,_,_⟩:=hcs.cells
  have hmk:=HMK.out W vx cx hgr (by omega)
  have HMKW:=Hh hmk
  have HSC:=Hh hsc; have HC:=Hh hcs; have HBL:=Hh hbl; have HGR:=Hh hgr
  obtain ⟨ax,cpx,rfl,_,_⟩:=hgr
  have hlg:∀ (X:World) (v':Value) (g:Nat),Below w.heap.size w X→Row X (.slice (some ⟨g,0,none⟩) 1 1) 1 [.string ⟨op.toArray⟩,v']→Row X v' cx.length (opc cx)→Calls Tryz.prog 11 #[.slice (some ⟨g,0,none⟩) 1 1] X fun e w'=>e=.returned (.bool (legalP (op,cx)))∧Below X.heap.size X w':=fun X v' g hb h1 h2=>legal_any op v' cx g X (HT.out.below hb) h1 h2 (by omega)
  have hof:∀ (X:World) (v':Value),Below w.heap.size w X→Row X v' cx.length (opc cx)→Calls Tryz.prog 39 #[insV op v'] X fun e w'=>∃ v'',e=.returned (insV op v'')∧WRow w' X.heap.size v'' (canonP (op,cx)).2.length (opc (canonP (op,cx)).2)∧Below X.heap.size X w':=fun X v' hb h2=>of_any op v' cx X (HT.out.below hb) h2 hg9
  obtain ⟨lg,hlgq⟩:∃ lg,legalP (op,cx)=lg:=⟨_,rfl⟩
  rw [hlgq] at hlg
  have HLG:=Hh hlg; have HOF:=Hh hof; have HLQ:=Hh hlgq
  clear hmk hsc hcs hbl hlg hof hlgq hN
  gi_wp2_with fail
  refine ⟨trivial,?_⟩
  refine (CallsIn.inRound lp (callsIn_wide.2 HMKW.out)).mono ?_
  rintro e W2 ⟨v2,rfl,hown2,hb2⟩
  have hrow2:=(WRow.of_owns hown2).row
  obtain ⟨a2,c2,rfl⟩:=owns_slice hown2
  have HROW2:=Hh hrow2; have HB2:=Hh hb2
  have HC2:=Hh (HC.out.keep (keepC_below hb2))
  have HBL2:=Hh (HBL.out.trans (hb2.mono HBL.out.size))
  clear hown2 hrow2 hb2 k0
  gi_wp2_with fail
  refine ⟨trivial,?_⟩
  obtain ⟨X,hX⟩:∃ X,(W2.alloc (.cells #[.string ⟨op.toArray⟩,.slice a2 cx.length c2] 24)).alloc (.cells #[.string ⟨op.toArray⟩,.slice a2 cx.length c2] 24)=X:=⟨_,rfl⟩
  have hbX:Below W2.heap.size W2 X:=by rw [←hX]; exact ((Below.refl _ _).alloc (Nat.le_refl _) _).alloc (by simp) _
  have hx1:X.heap[W2.heap.size]? = some (.cells #[.string ⟨op.toArray⟩,.slice a2 cx.length c2] 24 (0,0)):=by rw [←hX]; exact blk_alloc (blk_new _ _)
  have hx2:Row X (.slice (some ⟨W2.heap.size+1,0,none⟩) 1 1) 1 [.string ⟨op.toArray⟩,.slice a2 cx.length c2]:=by
   have h:=row_struct (W2.alloc (.cells #[.string ⟨op.toArray⟩,.slice a2 cx.length c2] 24)) [.string ⟨op.toArray⟩,.slice a2 cx.length c2] 1 24
   rw [World.size_alloc] at h
   rw [←hX]; exact h
  try rw [hX]
  have hbwX:=HBL2.out.trans (hbX.mono HBL2.out.size)
  refine (CallsIn.inRound lp (callsIn_wide.2 (HLG.out _ _ _ hbwX hx2 (HROW2.out.below hbX)))).mono ?_
  rintro e W3 ⟨rfl,hb3⟩
  have hx3:=blk_below hx1 hb3 (blk_lt hx1)
  have HX3:=Hh hx3
  have HB3:=Hh ((HB2.out.trans (hbX.mono HB2.out.size)).trans (hb3.mono (HB2.out.trans (hbX.mono HB2.out.size)).size))
  have HBL3:=Hh (hbwX.trans (hb3.mono hbwX.size))
  have HC3:=Hh ((HC2.out.keep (keepC_below hbX)).keep (keepC_below hb3))
  have HROW3:=Hh ((HROW2.out.below hbX).below hb3)
  clear hX hbX hx1 hx2 hbwX hb3 hx3
  cases lg with
  | false =>
    gi_wp2_with fail
    exact ⟨keepO_below HB3.out,keepC_below HB3.out,⟨⟨fun rest=>by rw [List.map_append,List.append_assoc,HSC.out]; show List.find? _ (cx::rest)=_; rw [List.find?_cons,HLQ.out],HC3.out⟩,HBL3.out⟩⟩
  | true =>
    obtain ⟨y0,y1,_,_⟩:=cells2 HX3.out
    have hlx:=blk_lt HX3.out
    gi_wp2_with fail
    refine ⟨trivial,?_⟩
    refine (CallsIn.inRound lp (callsIn_wide.2 (HOF.out _ _ HBL3.out HROW3.out))).mono ?_
    rintro e W4 ⟨v4,rfl,hrow4,hb4⟩
    obtain ⟨a4,c4,rfl,_,_⟩:=id hrow4.row
    have hc4:=HC3.out.keep (keepC_below hb4)
    obtain ⟨z0,z1,z2,z3,f1,f2,f3,hl4⟩:=hc4.cells
    have HC4:=Hh hc4
    have HROW4:=Hh hrow4
    have HB4:=Hh (HB3.out.trans (hb4.mono HB3.out.size))
    have HBL4:=Hh (HBL3.out.trans (hb4.mono HBL3.out.size))
    have hgt:w.heap.size+1+1<W3.heap.size:=HC3.out.cells.2.2.2.2.2.2.2
    clear hrow4 hb4 hc4 y0 y1
    gi_wp2_with fail
    refine ⟨?_,⟨⟨rfl,cx,.slice a4 _ c4,fun rest=>by rw [List.map_append,List.append_assoc,HSC.out]; show List.find? _ (cx::rest)=_; rw [List.find?_cons,HLQ.out],HC4.out.store,?_⟩,CS.storeB HBL4.out (Nat.le_refl _) _ _ _⟩,?_⟩
    · with_reducible repeat (refine KeepsOthers.trans ?_ (KeepsOthers.setCell _ _ _))
      exact keepO_below HB4.out
    · exact (((HROW4.out.kb ((((Kb.refl (w.heap.size+1) W4).setCell 0 (.string ⟨op.toArray⟩)).setCell 1 (.slice a4 _ c4))) (by omega)).kb ((Kb.refl (w.heap.size+1+1) _).setCell 0 (.int .i64 0)) (by omega))).row
    · exact keepC_t (keepC_t (keepC_t (keepC_below HB4.out) (keepC_set _ _ (by omega))) (keepC_set _ _ (by omega))) (keepC_set _ _ (by omega))
 case done =>
  rintro D ys W hD hys ⟨⟨hsc,hcs⟩,hbl⟩ hK
  have hres:=hsc []
  rw [List.append_nil,hys] at hres
  have HR2:=Hh (show RES=(([],[]),11) by rw [←HRES.out,show CH.find? (fun c=>legalP (op,c))=none from hres])
  obtain ⟨_,z0,z1,z2,f0,f1,f2,hl2⟩:=hcs.cells
  have hDw:w.heap.size+1+1<D:=by have:=HB6.out.size; omega
  have g1:=CS.store (m':=[]) (v':=.slice none 0 0) (code':=11) hcs
  have g2:=CS.storeB (x:=.string ⟨#[]⟩) (y:=.slice none 0 0) (z:=.int .i64 11) hbl (Nat.le_refl _)
  have g3:(((W.setCell ⟨w.heap.size+1,0,none⟩ (.string ⟨#[]⟩)).setCell ⟨w.heap.size+1,1,none⟩ (.slice none 0 0)).setCell ⟨w.heap.size+1+1,0,none⟩ (.int .i64 11)).heap[D]? = some (.deferred (some [])):=blk_other (blk_other (blk_other hK (by omega)) (by omega)) (by omega)
  have HG1:=Hh g1; have HG2:=Hh g2; have HG3:=Hh g3
  clear hsc hcs hbl hres hys g1 g2 g3
  go_wp2_with fail
  obtain ⟨X,hX⟩:∃ X,((W.setCell ⟨w.heap.size+1,0,none⟩ (.string ⟨#[]⟩)).setCell ⟨w.heap.size+1,1,none⟩ (.slice none 0 0)).setCell ⟨w.heap.size+1+1,0,none⟩ (.int .i64 11)=X:=⟨_,rfl⟩
  rw [hX] at HG1 HG2 HG3
  try rw [hX]
  refine ⟨by simp,.inl ⟨_,_,rfl,run_takeDeferred HG3.out,?_⟩⟩
  have hcs3:=HG1.out.keep (keepC_b (b:=0) X D _ (.deferred none) HG3.out rfl)
  obtain ⟨_,n0,n1,n2,_,_,_,_⟩:=hcs3.cells
  clear hcs3 z0 z1 z2 f0 f1 f2
  refine ⟨.tuple #[insV [] (.slice none 0 0),.int .i64 11],?_,⟨.slice none 0 0,by rw [HR2.out],by rw [HR2.out]; exact (WRow.nil _ 0).row,HG2.out.trans (belowK_b (w:=w) (Nat.le_refl _) X D _ _ (by omega) HG3.out rfl rfl)⟩⟩
  simp [results,Tryz.f15,go_sem,n0,n1,n2]
 case stop =>
  rintro D cd pre W hD hpre ⟨⟨rfl,x,v',hsc,hcs,hrow⟩,hbl⟩ hK
  obtain ⟨rest,hrest⟩:=hpre
  have hres:=hsc rest
  rw [hrest] at hres
  have hDw:w.heap.size≤D:=by have:=HB6.out.size; omega
  have hcs2:=hcs.keep (keepC_b (b:=0) W D _ (.deferred none) hK rfl)
  obtain ⟨_,n0,n1,n2,_,_,_,_⟩:=hcs2.cells
  have hrow2:=hrow.keepC (keepC_b (b:=0) W D _ (.deferred none) hK rfl)
  have HROWX:=Hh hrow2
  have HR2:=Hh (show RES=(canonP (op,x),0) by rw [←HRES.out,show CH.find? (fun c=>legalP (op,c))=some x from hres])
  clear hsc hcs hres hrest hcs2 hrow hrow2
  gi_wp2
  refine ⟨by simp,.inl ⟨_,_,rfl,run_takeDeferred hK,?_⟩⟩
  refine ⟨.tuple #[insV op v',.int .i64 0],?_,⟨v',by rw [HR2.out]; rfl,by rw [HR2.out]; exact HROWX.out,hbl.trans (belowK_b (w:=w) (Nat.le_refl _) W D _ _ hDw hK rfl rfl)⟩⟩
  simp [results,Tryz.f15,go_sem,n0,n1,n2]
theorem choose_any (op:List UInt8) (l:List (Ar × Option Addr)) (v:Value) (w:World) (hT:TabsA w) (hr:Row w v l.length (arc l)) (hs:∀ y∈l,y.1.text.size≤1000000) (hl:l.length≤500) (hop:op.length≤1000) (hup1:upper ⟨op.toArray⟩=⟨op.toArray⟩) :
 Calls Tryz.prog 15 #[.string ⟨op.toArray⟩,v] w (ChRes (chooseP op (l.map Prod.fst)) w):=by
 by_cases h:op∈opsL
 · exact choose_good op l v w hT hr hs hl hop hup1 h
 · exact choose_bad op l v w hT hr (by omega) hup1 h
end Go.Proofs.YtkldoojonnkfgaaGreatDoor
namespace Go.Proofs.YtkldoojonnkfgaaGreatDoor
open Go.RowKit Go.Sort
theorem wordAtN_size {l:List Tok} {n:Nat} (h:∀ t∈l,t.text.size≤n) (i:Nat):(wordAt l i).size≤n:=by
 unfold wordAt
 split
 · rename_i t ht
   split
   · rw [up_size]; exact h t (List.mem_of_getElem? ht)
   · exact Nat.zero_le _
 · exact Nat.zero_le _
theorem exprA_size {k:Int} {s:ByteArray} {n:Nat} (h:s.size≤n) (l:List Tok):(exprA k s l).1.text.size≤n:=by
 unfold exprA
 split
 · split
   · exact h
   · exact Nat.zero_le _
 · exact Nat.zero_le _
theorem argOf_size {l:List Tok} {n:Nat} (h:∀ t∈l,t.text.size≤n):(argOf l).1.text.size≤n:=by
 unfold argOf
 split
 · exact wordAtN_size h 0
 · unfold argP1
   split
   · exact exprA_size (Nat.zero_le _) l
   · rename_i m hm
     have hm':∀ t∈m,t.text.size≤n:=fun t ht=>by
      unfold innerP at hm
      split at hm
      · cases hm
        exact h t (List.mem_of_mem_drop (List.mem_of_mem_take ht))
      · cases hm
     split
     · exact wordAtN_size hm' 0
     · split
       · exact exprA_size (wordAtN_size hm' 0) _
       · exact exprA_size (Nat.zero_le _) _
theorem argsGo_size {n:Nat}:∀ {ps:List (List Tok)},(∀ p∈ps,∀ t∈p,t.text.size≤n)→∀ y∈(argsGo ps).1,y.text.size≤n
 | [],_,y,hy=>by simp [argsGo] at hy
 | p::ps,h,y,hy=>by
   unfold argsGo at hy
   split at hy
   · split at hy
     · rcases List.mem_cons.1 hy with rfl | hy
       · exact argOf_size (h p List.mem_cons_self)
       · exact argsGo_size (fun q hq=>h q (List.mem_cons_of_mem _ hq)) y hy
     · cases hy
   · cases hy
theorem argsP_size {n:Nat} {l:List Tok} (h:∀ t∈l,t.text.size≤n):∀ y∈(argsP l).1,y.text.size≤n:=argsGo_size fun _p hp t ht=>h t (split_mem hp t ht)
theorem Row.kbC {w w':World} {b:Nat} {v:Value} {n:Nat} {cs:List Value} (h:Row w v n cs) (hk:Kb b w w') (j:Nat) (hj:cs≠[]→j<cs.length) (hno:∀ o,cs≠[]→w.cell? ⟨b,o+j,none⟩≠cs[j]?):Row w' v n cs:=by
 refine h.blocks hk.size fun g o c hv hne hg=>hk.block g hg ?_
 rintro rfl
 obtain ⟨a,cap,hv2,_,hc⟩:=h
 obtain ⟨g',o',ha,_,hcs⟩:=hc hne
 rw [hv] at hv2
 cases hv2
 cases ha
 exact hno _ hne (hcs j (hj hne))
def CodeRes (b:Nat) (lab:ByteArray) (x:Stm × Int) (w:World) (e:Ending) (w':World):Prop :=
 e=.returned (.int .i64 x.2)∧Kb b w w'∧(x.2=0→∃ vl va,∃ vs:List (Ar × Option Addr),PB w' b vl lab ⟨x.1.op.toArray⟩ va (.slice none 0 0)∧x.1.label=lab∧x.1.parts=[]∧vs.map Prod.fst=x.1.args∧Row w' va vs.length (arc vs)∧∀ y∈vs,OptAt 225 w' y.1.ex (.pointer y.2))
set_option maxRecDepth 100000 in
set_option maxHeartbeats 8000000 in
theorem code_any (word:ByteArray) (l:List Tok) (lab op:ByteArray) (b:Nat) (w:World) (hT:∀ W,Kb b w W→TabsA W) (h:LP w b l lab op (.slice none 0 0) (.slice none 0 0)) (hs:TokOk l) (hl:l.length≤100000) (hw:word.size≤1000000) (hop:upL word∈opsL) :
 Calls Tryz.prog 128 #[.pointer (some ⟨b,0,none⟩),.string word] w (CodeRes b lab (codeP lab word l) w):=by
 have hlt:=h.lt
 have hup:=fun W=>upper_any word W (by unfold maxLen; omega)
 have hall:=fun v W hr=>all_any l v W hr hs hl
 have hsz:=argsP_size (n:=1000000) (l:=l) (fun t ht=>(hs t ht).1)
 obtain ⟨hu1,_,hu3⟩:=ops_up hop
 have hch:=fun (vs:List (Ar × Option Addr)) (v:Value) (W:World) (hb:Kb b w W) (hr:Row W v vs.length (arc vs)) (hm:vs.map Prod.fst=(argsP l).1) (h3:vs.length≤3) =>
  choose_any (upL word) vs v W (hT W hb) hr (fun y hy=>hsz y.1 (by rw [←hm]; exact List.mem_map_of_mem hy)) (by omega) (by omega) hu1
 have hue:(⟨(upL word).toArray⟩:ByteArray)=upper word:=rfl
 rw [hue] at hch
 obtain ⟨RR,hRR⟩:∃ RR,codeP lab word l=RR:=⟨_,rfl⟩
 rw [hRR]
 unfold codeP at hRR
 generalize argsP l=AP at *
 obtain ⟨PA,PC⟩:=AP
 dsimp only at hch hRR hsz
 unfold AllRes at hall
 dsimp only at hall
 have HUP:=Hh hup; have HALL:=Hh hall; have HCH:=Hh hch; have HRR:=Hh hRR; have HH:=Hh h
 clear hup hall hch hRR hsz hu1 hu3 hue hT hs hop
 obtain ⟨OPL,hOPL⟩:∃ OPL,upL word=OPL:=⟨_,rfl⟩
 rw [hOPL] at HRR HCH
 have hUU:upper word=⟨OPL.toArray⟩:=by rw [←hOPL]; rfl
 rw [hUU] at HUP HCH
 clear hUU hOPL hw
 go_enter Tryz.func128,Tryz.ntmps128
 go_wp2_with fail
 (with_reducible refine (HUP.out _).mono ?_)
 rintro e w1 ⟨rfl,hb1⟩
 have hL1:=HH.out.below hb1
 obtain ⟨a,cap,c0,c1,c2,c3,c4,hf,hcap,hr⟩:=hL1.cells
 have hf2:=hf 2
 have hlt1:=hL1.lt
 have hrow2:=hL1.rowSet c0 (Below.refl _ _) 2 (.string ⟨OPL.toArray⟩)
 have HL1:=Hh (hL1.setOp ⟨OPL.toArray⟩); have HROW:=Hh hrow2; have HK1:=Hh ((Kb.of_below (b:=b) hb1).setCell 2 (.string ⟨OPL.toArray⟩))
 clear hb1 hL1 hf hr hrow2
 go_wp2_with fail
 (with_reducible refine (HALL.out _ _ HROW.out).mono ?_)
 rintro e w2 ⟨a2,k2,vs,rfl,hm,hr2,hx2,hb2⟩
 have hL2:=HL1.out.below hb2
 obtain ⟨vl,hpb2,_⟩:=hL2.pb
 have d3:w2.cell? ⟨b,3,none⟩=some (.slice none 0 0):=blk_cell hpb2 3
 have f3:=blk_frozen hpb2 3
 have hlt2:=blk_lt hpb2
 have hkb:Kb b w2 (w2.setCell ⟨b,3,none⟩ (.slice a2 vs.length k2)):=(Kb.refl b w2).setCell 3 _
 have hrw:Row (w2.setCell ⟨b,3,none⟩ (.slice a2 vs.length k2)) (.slice a2 vs.length k2) vs.length (arc vs):=by
  refine hr2.kbC hkb 0 (fun hne=>List.length_pos_iff.2 hne) (fun o hne=>?_)
  have hcell:∀ i:Nat,∀ y,w2.cell? ⟨b,i,none⟩=some y→∀ k n,y≠.int k n:=by
   intro i y hy k n e
   rw [blk_cell hpb2,e] at hy
   obtain ⟨a',cap',k1,_,_⟩:=id hL2
   have e2:=k1.symm.trans hpb2
   simp only [Option.some.injEq,Obj.cells.injEq,Array.mk.injEq,List.cons.injEq,and_true] at e2
   rw [←e2] at hy
   match i,hy with
   | 0,hy=>cases hy
   | 1,hy=>cases hy
   | 2,hy=>cases hy
   | 3,hy=>cases hy
   | 4,hy=>cases hy
   | i+5,hy=>simp at hy
  cases vs with
  | nil=>exact absurd rfl hne
  | cons y l'=>exact fun e=>hcell _ _ e _ _ rfl
 have hox:∀ y∈vs,OptAt 225 (w2.setCell ⟨b,3,none⟩ (.slice a2 vs.length k2)) y.1.ex (.pointer y.2):=fun y hy=>(hx2 y hy).setBox hpb2 (by decide)
 have hpb3:PB (w2.setCell ⟨b,3,none⟩ (.slice a2 vs.length k2)) b vl lab ⟨OPL.toArray⟩ (.slice a2 vs.length k2) (.slice none 0 0):=blk_set hpb2
 have HK2:=Hh ((HK1.out.trans (Kb.of_below (b:=b) hb2)).trans hkb)
 have HRW:=Hh hrw; have HOX:=Hh hox; have HPB3:=Hh hpb3; have HM:=Hh hm
 have hvl:PA.length=vs.length:=by rw [←hm,List.length_map]
 have HVL:=Hh hvl
 obtain ⟨W3,hW3⟩:∃ W3,w2.setCell ⟨b,3,none⟩ (.slice a2 vs.length k2)=W3:=⟨_,rfl⟩
 rw [hW3] at HK2 HRW HOX HPB3
 have g2:W3.cell? ⟨b,2,none⟩=some (.string ⟨OPL.toArray⟩):=blk_cell HPB3.out 2
 have g3:W3.cell? ⟨b,3,none⟩=some (.slice a2 vs.length k2):=blk_cell HPB3.out 3
 have hlt3:=blk_lt HPB3.out
 have HW3:=Hh hW3
 clear hb2 hL2 hkb hrw hox hpb3 hpb2 hr2 hx2 hm hvl hW3 c0 c1 c2 c3 c4 hf2
 by_cases hp:PC=0
 · subst hp
   have hrr:=HRR.out
   rw [if_neg (by simp),HVL.out] at hrr
   by_cases h3:3<vs.length
   · rw [if_pos h3] at hrr
     have h3i:(3:Int)<(vs.length:Int):=by omega
     have HRR2:=Hh hrr
     clear hrr h3
     go_wp2_with fail
     go_ret
     rw [←HRR2.out]
     exact ⟨rfl,by rw [HW3.out]; exact HK2.out,fun h=>absurd h (by decide)⟩
   · rw [if_neg h3] at hrr
     have h3i:¬ (3:Int)<(vs.length:Int):=by omega
     have hch:=fun W (hb:Below W3.heap.size W3 W)=>HCH.out vs (.slice a2 vs.length k2) W (HK2.out.trans (Kb.of_below (b:=b) hb)) (HRW.out.below hb) HM.out (by omega)
     rw [HM.out] at hch
     obtain ⟨⟨I,CC⟩,hI⟩:∃ I,chooseP OPL PA=I:=⟨_,rfl⟩
     rw [hI] at hrr
     simp only [hI] at hch
     unfold ChRes at hch
     dsimp only at hch hrr
     have HRR2:=Hh hrr; have HCH2:=Hh hch
     clear hrr hch h3 hI
     go_wp2_with fail
     rw [HW3.out]
     have hdr:Below W3.heap.size W3 W3.drew:=bl
     go_region_held3 (fun w'=>w'.cell? ⟨b,2,none⟩=some (.string ⟨OPL.toArray⟩)∧w'.cell? ⟨b,3,none⟩=some (.slice a2 vs.length k2)) (first | exact ⟨g2,g3⟩ | exact K4) (first | ((with_reducible refine (HCH2.out _ hdr).mono ?_); rintro e w4 ⟨v4,rfl,hr4,hb4⟩; have K4:w4.cell? ⟨b,2,none⟩=some _∧w4.cell? ⟨b,3,none⟩=some _:=⟨(hb4.cell (p:=⟨b,2,none⟩) hlt3).trans g2,(hb4.cell (p:=⟨b,3,none⟩) hlt3).trans g3⟩))
     all_goals
      have HBW:=Hh (hdr.trans hb4)
      clear hb4 K4 hr4
      go_wp2_with fail
      go_ret
      by_cases hcc:CC=0
      · subst hcc
        have hr:RR=(⟨lab,OPL,PA,[]⟩,0):=by rw [←HRR2.out]; rfl
        rw [hr]
        exact ⟨rfl,HK2.out.trans (Kb.of_below HBW.out),fun _=>⟨vl,_,vs,HPB3.out.below HBW.out,rfl,rfl,HM.out,HRW.out.below HBW.out,fun y hy=>(HOX.out y hy).below HBW.out⟩⟩
      · have hr:RR=(stm0,CC):=by rw [←HRR2.out,if_pos hcc]
        rw [hr]
        exact ⟨rfl,HK2.out.trans (Kb.of_below HBW.out),fun h=>absurd h hcc⟩
 · have hrr:=HRR.out
   rw [if_pos hp] at hrr
   have hpn:(PC != 0)=true:=by simpa using hp
   have HRR2:=Hh hrr
   have HP:=Hh hp
   clear hrr hp
   go_wp2_with fail
   go_ret
   rw [←HRR2.out]
   exact ⟨rfl,by rw [HW3.out]; exact HK2.out,fun h=>absurd h HP.out⟩
end Go.Proofs.YtkldoojonnkfgaaGreatDoor
namespace Go.Proofs.YtkldoojonnkfgaaGreatDoor
open Go.RowKit Go.Sort
def StmV (w:World) (x:Stm) (va vp:Value):Prop:=∃ (vs:List (Ar × Option Addr)) (ps:List (Pt × Option Addr)),
 vs.map Prod.fst=x.args∧Row w va vs.length (arc vs)∧(∀ y∈vs,OptAt 225 w y.1.ex (.pointer y.2))∧ps.map Prod.fst=x.parts∧Row w vp ps.length (ptc ps)∧∀ y∈ps,OptAt 225 w y.1.ex (.pointer y.2)
theorem Row.none0 (w:World):Row w (.slice none 0 0) 0 []:=⟨none,0,rfl,Nat.le_refl _,fun h=>absurd rfl h⟩
theorem StmV.below {w w':World} {x:Stm} {va vp:Value} (h:StmV w x va vp) (hb:Below w.heap.size w w'):StmV w' x va vp:=by
 obtain ⟨vs,ps,h1,h2,h3,h4,h5,h6⟩:=h
 exact ⟨vs,ps,h1,h2.below hb,fun y hy=>(h3 y hy).below hb,h4,h5.below hb,fun y hy=>(h6 y hy).below hb⟩
def StRes (b:Nat) (x:Stm × Int) (w:World) (e:Ending) (w':World):Prop :=
 e=.returned (.int .i64 x.2)∧Kb b w w'∧(x.2=0→∃ vl va vp,PB w' b vl x.1.label ⟨x.1.op.toArray⟩ va vp∧StmV w' x.1 va vp)
theorem DataRes.st {b:Nat} {lab:ByteArray} {x:Stm × Int} {w0 w w':World} {e:Ending} (h:DataRes b lab x w e w') (h0:Kb b w0 w):StRes b x w0 e w':=by
 obtain ⟨he,hk,hx⟩:=h
 refine ⟨he,h0.trans hk,fun h=>?_⟩
 obtain ⟨vl,vp,ps,h1,h2,h3,h4,h5,h6⟩:=hx h
 exact ⟨vl,_,vp,by rw [h2]; exact h1,[],ps,by rw [h3]; rfl,Row.none0 _,by simp,h4,h5,h6⟩
theorem CodeRes.st {b:Nat} {lab:ByteArray} {x:Stm × Int} {w0 w w':World} {e:Ending} (h:CodeRes b lab x w e w') (h0:Kb b w0 w):StRes b x w0 e w':=by
 obtain ⟨he,hk,hx⟩:=h
 refine ⟨he,h0.trans hk,fun h=>?_⟩
 obtain ⟨vl,va,vs,h1,h2,h3,h4,h5,h6⟩:=hx h
 exact ⟨vl,va,_,by rw [h2]; exact h1,vs,[],h4,h5,h6,by rw [h3]; rfl,Row.none0 _,by simp⟩
theorem up_wEQU:upper ⟨#[69,81,85]⟩=⟨#[69,81,85]⟩:=by decide +kernel
set_option maxRecDepth 100000 in
set_option maxHeartbeats 8000000 in
theorem statement_any (l:List Tok) (b:Nat) (w:World) (hT:∀ W,Kb b w W→TabsA W) (h:LP w b l ⟨#[]⟩ ⟨#[]⟩ (.slice none 0 0) (.slice none 0 0)) (hs:TokOk l) (hl:l.length≤100000) :
 Calls Tryz.prog 59 #[.pointer (some ⟨b,0,none⟩)] w (StRes b (stmtP l) w):=by
 have hs2:∀ t∈l,t.text.size≤1000000:=fun t ht=>(hs t ht).1
 have hlab:=lineLabel_any l _ _ _ b w hT h hs2 hl
 have hd:=fun t (ht:t∈l.drop (labelP l).2)=>List.mem_of_mem_drop ht
 unfold LabRes at hlab
 unfold stmtP
 obtain ⟨n,hn⟩:∃ n,(labelP l).2=n:=⟨_,rfl⟩
 obtain ⟨lab,hlb⟩:∃ lab,(labelP l).1=lab:=⟨_,rfl⟩
 rw [hn] at hd
 rw [hn,hlb] at hlab ⊢
 have hmlen:(l.drop n).length≤100000:=by rw [List.length_drop]; omega
 generalize l.drop n=m at *
 have HLAB:=Hh hlab
 have HT:=Hh hT
 clear hlab hT h hn hlb
 by_cases hbad:0<n∧resvW lab=true
 · rw [if_pos hbad] at HLAB ⊢
   clear hbad
   go_enter Tryz.func59,Tryz.ntmps59
   go_wp2_with fail
   (with_reducible refine HLAB.out.mono ?_)
   rintro e w1 ⟨rfl,hl1,hk1⟩
   have HK1:=Hh hk1; clear hk1 hl1
   go_wp2_with fail
   go_ret
   exact ⟨rfl,HK1.out,fun h=>absurd h (by decide)⟩
 · rw [if_neg hbad] at HLAB ⊢
   clear hbad
   rcases m with _ | ⟨t,r⟩
   · go_enter Tryz.func59,Tryz.ntmps59
     go_wp2_with fail
     (with_reducible refine HLAB.out.mono ?_)
     rintro e w1 ⟨rfl,hl1,hk1⟩
     obtain ⟨a,cap,c0,c1,c2,c3,c4,hf,hcap,hr⟩:=hl1.cells
     have HK1:=Hh hk1; have HL1:=Hh hl1
     have c0:w1.cell? ⟨b,0,none⟩=some (.slice a 0 cap):=c0
     have hlt:=hl1.lt
     clear hk1 hl1 hr hf
     go_wp2_with fail
     go_ret
     obtain ⟨vl,hpb,_⟩:=HL1.out.pb
     exact ⟨rfl,HK1.out,fun _=>⟨vl,_,_,hpb,[],[],rfl,Row.none0 _,by simp,rfl,Row.none0 _,by simp⟩⟩
   · have ht:=hs t (hd t List.mem_cons_self)
     have ht2:=hs2 t (hd t List.mem_cons_self)
     have hrs:TokOk r:=fun x hx=>hs x (hd x (List.mem_cons_of_mem _ hx))
     have hrl:r.length+1≤100000:=hmlen
     have his:=fun W (hp:LP W b (t::r) lab ⟨#[]⟩ (.slice none 0 0) (.slice none 0 0))=>lis_any 0 0 rfl 61 (t::r) _ _ _ _ b W hp (by simp; omega) (by omega)
     have hkd:=fun W (hp:LP W b (t::r) lab ⟨#[]⟩ (.slice none 0 0) (.slice none 0 0))=>lkind_any 0 0 rfl (t::r) _ _ _ _ b W hp (by simp; omega) (by omega)
     have htk:=fun W (hp:LP W b (t::r) lab ⟨#[]⟩ (.slice none 0 0) (.slice none 0 0))=>ltake_any 1 1 rfl (.inl rfl) t (t::r) rfl _ _ _ _ b W hp (by simp) (by simp; omega)
     have hd1:(t::r).drop 1=r:=rfl
     rw [hd1] at htk
     have hia:isAt (t::r) 0 61=signIs t [61]:=rfl
     rw [hia] at his
     have hka:(((t::r)[0]?.map Tok.kind).getD 0)=t.kind:=rfl
     rw [hka] at hkd
     have hdr:=fun W=>directives_any W
     have hdat:=fun d p q W op (hp:LP W b r lab op (.slice none 0 0) (.slice none 0 0)) h1 h2=>data_any d p q r lab op b W hp hrs (by omega) h1 h2
     have hcod:=fun W (hb:Kb b w W) op (hp:LP W b r lab op (.slice none 0 0) (.slice none 0 0)) (ho:upL t.text∈opsL)=>code_any t.text r lab op b W (fun X hX=>HT.out X (hb.trans hX)) hp hrs (by omega) ht2 ho
     have hkn:=fun W (hb:Kb b w W)=>knownI_any t.text W (HT.out W hb) (by unfold maxLen; omega)
     have hup:=fun W=>upper_any t.text W (by unfold maxLen; omega)
     have hupq:=fun W=>upper_any ⟨#[69,81,85]⟩ W (by decide)
     rw [up_wEQU] at hupq
     have hpos:((r.length:Int)+1 == 0)=false:=by simp; omega
     have hrest:restP lab (t::r)=if signIs t [61]=true then dataP lab wEQU r else if t.kind≠1 then (stm0,3) else if dirP t.text≠[] then dataP lab (dirP t.text) r else if upL t.text∉opsL then (stm0,12) else codeP lab t.text r:=rfl
     rw [hrest]
     clear hrest
     have HIS:=Hh his; have HKD:=Hh hkd; have HTK:=Hh htk; have HDR:=Hh hdr; have HDAT:=Hh hdat; have HCOD:=Hh hcod; have HKN:=Hh hkn; have HUP:=Hh hup; have HUPQ:=Hh hupq
     clear his hkd htk hdr hdat hcod hkn hup hupq hd1 hia hka hs hs2 hd hl hmlen ht hrs hrl
     by_cases hq:signIs t [61]=true
     · rw [if_pos hq]
       rw [hq] at HIS
       clear hq
       have hee:dirU (⟨#[69,81,85]⟩:ByteArray).data.toList=wEQU:=by decide
       have hne0:wEQU≠[]:=by decide
       obtain ⟨D,hD⟩:∃ D,wEQU=D:=⟨_,rfl⟩
       rw [hD] at hee hne0 ⊢
       have HEE:=Hh hee; have HNE:=Hh hne0
       clear hee hne0 hD
       go_enter Tryz.func59,Tryz.ntmps59
       go_wp2_with fail
       (with_reducible refine HLAB.out.mono ?_)
       rintro e w1 ⟨rfl,hl1,hk1⟩
       obtain ⟨a,cap,c0,c1,c2,c3,c4,hf,hcap,hr⟩:=hl1.cells
       have HK1:=Hh hk1; have HL1:=Hh hl1
       have c0:w1.cell? ⟨b,0,none⟩=some (.slice a (r.length+1) cap):=c0
       have hlt:=hl1.lt
       clear hk1 hl1 hr hf c1 c2 c3 c4
       go_wp2_with fail
       (with_reducible refine (HIS.out _ HL1.out).mono ?_)
       rintro e w2 ⟨rfl,hb2⟩
       have HL2:=Hh (HL1.out.below hb2); have HK2:=Hh (HK1.out.trans (Kb.of_below (b:=b) hb2)); clear hb2 c0
       go_wp2_with fail
       (with_reducible refine (HTK.out _ HL2.out).mono ?_)
       rintro e w3 ⟨rfl,hl3,hk3⟩
       have HL3:=Hh hl3; have HK3:=Hh (HK2.out.trans hk3); clear hl3 hk3
       go_wp2_with fail
       (with_reducible refine (HDR.out _).mono ?_)
       rintro e w4 ⟨mb,ml,rfl,hm,hdm,hb4⟩
       have HL4:=Hh (HL3.out.below hb4); have HK4:=Hh (HK3.out.trans (Kb.of_below (b:=b) hb4)); have HM:=Hh hm; have HDM:=Hh hdm; clear hm hdm hb4
       go_wp2_with fail
       (with_reducible refine (HUPQ.out _).mono ?_)
       rintro e w5 ⟨rfl,hb5⟩
       have HL5:=Hh (HL4.out.below hb5); have HK5:=Hh (HK4.out.trans (Kb.of_below (b:=b) hb5))
       have hd5:DirMap ml w5:=⟨fun k v hg=>⟨(HDM.out.1 k v hg).1,(HDM.out.1 k v hg).2.below hb5⟩,HDM.out.2⟩
       rcases dir_look (HM.out.below hb5) hd5 ⟨#[69,81,85]⟩ with ⟨h0,_⟩ | ⟨_,p,q,hp,hq,hlk⟩
       · rw [HEE.out] at h0; exact absurd h0 HNE.out
       · rw [HEE.out] at hq hlk
         have hdt:=fun W (hb:Below w5.heap.size w5 W)=>HDAT.out D p q W _ (HL5.out.below hb) (blk_below hp hb (blk_lt hp)) (blk_below hq hb (blk_lt hq))
         clear hb5 hd5 hp hq
         obtain ⟨DB,hDB⟩:∃ DB,decide (D=wDEFB)=DB:=⟨_,rfl⟩
         obtain ⟨DE,hDE⟩:∃ DE:ByteArray,(⟨D.toArray⟩:ByteArray)=DE:=⟨_,rfl⟩
         rw [hDB,hDE] at hlk hdt
         have HDT:=Hh hdt; clear hdt hDB hDE
         go_wp2_with fail
         (with_reducible refine (HDT.out _ (bl)).mono ?_)
         rintro e w6 hres
         have HRES:=Hh (hres.st (w0:=w) (by first | exact HK5.out.alloc _ | exact (HK5.out.alloc _).alloc _))
         obtain ⟨rfl,_,_⟩:=hres
         go_wp2_with fail
         go_ret
         exact HRES.out
     · rw [if_neg hq]
       have hq:signIs t [61]=false:=by simpa using hq
       rw [hq] at HIS
       clear hq
       by_cases hk1:t.kind=1
       · rw [if_neg (by simpa using hk1)]
         rw [hk1] at HKD
         have hdp:dirP t.text=dirU (upper t.text).data.toList:=rfl
         have hul:upL t.text=(upper t.text).data.toList:=rfl
         rw [hdp]
         rw [hul] at HCOD
         rw [hul]
         generalize upper t.text=U at *
         generalize t.text=s at *
         obtain ⟨D,hD⟩:∃ D,dirU U.data.toList=D:=⟨_,rfl⟩
         rw [hD]
         obtain ⟨R,hR⟩:∃ R,(if D≠[] then dataP lab D r else if U.data.toList∉opsL then (stm0,12) else codeP lab s r)=R:=⟨_,rfl⟩
         rw [hR]
         have HD:=Hh hD; have HR:=Hh hR
         clear hk1 hdp hul HUPQ hD hR
         go_enter Tryz.func59,Tryz.ntmps59
         go_wp2_with fail
         (with_reducible refine HLAB.out.mono ?_)
         rintro e w1 ⟨rfl,hl1,hk1⟩
         obtain ⟨a,cap,c0,c1,c2,c3,c4,hf,hcap,hr⟩:=hl1.cells
         have HK1:=Hh hk1; have HL1:=Hh hl1
         have c0:w1.cell? ⟨b,0,none⟩=some (.slice a (r.length+1) cap):=c0
         have hlt:=hl1.lt
         clear hk1 hl1 hr hf c1 c2 c3 c4
         go_wp2_with fail
         (with_reducible refine (HIS.out _ HL1.out).mono ?_)
         rintro e w2 ⟨rfl,hb2⟩
         have HL2:=Hh (HL1.out.below hb2); have HK2:=Hh (HK1.out.trans (Kb.of_below (b:=b) hb2)); clear hb2 c0
         go_wp2_with fail
         (with_reducible refine (HKD.out _ HL2.out).mono ?_)
         rintro e w2b ⟨rfl,hb2⟩
         have HL2b:=Hh (HL2.out.below hb2); have HK2b:=Hh (HK2.out.trans (Kb.of_below (b:=b) hb2)); clear hb2
         go_wp2_with fail
         (with_reducible refine (HTK.out _ HL2b.out).mono ?_)
         rintro e w3 ⟨rfl,hl3,hk3⟩
         have HL3:=Hh hl3; have HK3:=Hh (HK2b.out.trans hk3); clear hl3 hk3
         go_wp2_with fail
         (with_reducible refine (HDR.out _).mono ?_)
         rintro e w4 ⟨mb,ml,rfl,hm,hdm,hb4⟩
         have HL4:=Hh (HL3.out.below hb4); have HK4:=Hh (HK3.out.trans (Kb.of_below (b:=b) hb4)); have HM:=Hh hm; have HDM:=Hh hdm; clear hm hdm hb4
         go_wp2_with fail
         (with_reducible refine (HUP.out _).mono ?_)
         rintro e w5 ⟨rfl,hb5⟩
         have HL5:=Hh (HL4.out.below hb5); have HK5:=Hh (HK4.out.trans (Kb.of_below (b:=b) hb5))
         have hd5:DirMap ml w5:=⟨fun k v hg=>⟨(HDM.out.1 k v hg).1,(HDM.out.1 k v hg).2.below hb5⟩,HDM.out.2⟩
         rcases dir_look (HM.out.below hb5) hd5 U with ⟨h0,hlk⟩ | ⟨hne,p,q,hp,hq,hlk⟩
         · rw [HD.out] at h0
           have hr0:=HR.out
           rw [if_neg (by simpa using h0)] at hr0
           have hal:Below w5.heap.size w5 (w5.alloc (.cells #[.string ⟨#[]⟩,.bool false,.nilFunc] 136)):=(Below.refl _ _).alloc (Nat.le_refl _) _
           have HK6:=Hh (HK5.out.trans (Kb.of_below (b:=b) hal)); have HL6:=Hh (HL5.out.below hal)
           have HR0:=Hh hr0
           clear hb5 hd5 h0 hal hr0
           by_cases hin:U.data.toList∈opsL
           · have hr1:=HR0.out
             rw [if_neg (fun h=>h hin)] at hr1
             have HR1:=Hh hr1; clear hr1
             have hkt:decide (U.data.toList∈opsL)=true:=decide_eq_true hin
             rw [hkt] at HKN
             have HIN:=Hh hin; clear hin hkt
             go_wp2_with fail
             (with_reducible refine (HKN.out _ HK6.out).mono ?_)
             rintro e w7 ⟨rfl,hb7⟩
             have HL7:=Hh (HL6.out.below hb7); have HK7:=Hh (HK6.out.trans (Kb.of_below (b:=b) hb7)); clear hb7
             go_wp2_with fail
             (with_reducible refine (HCOD.out _ HK7.out _ HL7.out HIN.out).mono ?_)
             rintro e w8 hres
             have HRES:=Hh (hres.st (w0:=w) HK7.out)
             obtain ⟨rfl,_,_⟩:=hres
             go_wp2_with fail
             go_ret
             rw [←HR1.out]
             exact HRES.out
           · have hr1:=HR0.out
             rw [if_pos hin] at hr1
             have HR1:=Hh hr1; clear hr1
             have hkt:decide (U.data.toList∈opsL)=false:=decide_eq_false hin
             rw [hkt] at HKN
             clear hin hkt
             go_wp2_with fail
             (with_reducible refine (HKN.out _ HK6.out).mono ?_)
             rintro e w7 ⟨rfl,hb7⟩
             have HK7:=Hh (HK6.out.trans (Kb.of_below (b:=b) hb7)); clear hb7
             go_wp2_with fail
             go_ret
             rw [←HR1.out]
             exact ⟨rfl,HK7.out,fun h=>absurd h (by decide)⟩
         · rw [HD.out] at hne hq hlk
           have hr0:=HR.out
           rw [if_pos hne] at hr0
           have HR0:=Hh hr0
           have hdt:=fun W (hb:Below w5.heap.size w5 W)=>HDAT.out D p q W _ (HL5.out.below hb) (blk_below hp hb (blk_lt hp)) (blk_below hq hb (blk_lt hq))
           clear hb5 hd5 hp hq hne hr0
           obtain ⟨DB,hDB⟩:∃ DB,decide (D=wDEFB)=DB:=⟨_,rfl⟩
           obtain ⟨DE,hDE⟩:∃ DE:ByteArray,(⟨D.toArray⟩:ByteArray)=DE:=⟨_,rfl⟩
           rw [hDB,hDE] at hlk hdt
           have HDT:=Hh hdt; clear hdt hDB hDE
           go_wp2_with fail
           (with_reducible refine (HDT.out _ (bl)).mono ?_)
           rintro e w6 hres
           have HRES:=Hh (hres.st (w0:=w) (by first | exact HK5.out.alloc _ | exact (HK5.out.alloc _).alloc _))
           obtain ⟨rfl,_,_⟩:=hres
           go_wp2_with fail
           go_ret
           rw [←HR0.out]
           exact HRES.out
       · rw [if_pos hk1]
         have hkf:(t.kind == 1)=false:=by simpa using hk1
         generalize t.kind=k at *
         clear hk1
         go_enter Tryz.func59,Tryz.ntmps59
         go_wp2_with fail
         (with_reducible refine HLAB.out.mono ?_)
         rintro e w1 ⟨rfl,hl1,hk1⟩
         obtain ⟨a,cap,c0,c1,c2,c3,c4,hf,hcap,hr⟩:=hl1.cells
         have HK1:=Hh hk1; have HL1:=Hh hl1
         have c0:w1.cell? ⟨b,0,none⟩=some (.slice a (r.length+1) cap):=c0
         have hlt:=hl1.lt
         clear hk1 hl1 hr hf c1 c2 c3 c4
         go_wp2_with fail
         (with_reducible refine (HIS.out _ HL1.out).mono ?_)
         rintro e w2 ⟨rfl,hb2⟩
         have HL2:=Hh (HL1.out.below hb2); have HK2:=Hh (HK1.out.trans (Kb.of_below (b:=b) hb2)); clear hb2 c0
         go_wp2_with fail
         (with_reducible refine (HKD.out _ HL2.out).mono ?_)
         rintro e w2b ⟨rfl,hb2⟩
         have HK2b:=Hh (HK2.out.trans (Kb.of_below (b:=b) hb2)); clear hb2
         go_wp2_with fail
         go_ret
         exact ⟨rfl,HK2b.out,fun h=>absurd h (by decide)⟩
end Go.Proofs.YtkldoojonnkfgaaGreatDoor
