/- Joined texts: Line17, NodeCells, LawAShown. -/
import Derived.Test.YtkldoojonnkfgaaGreatDoorB48
import Derived.Test.YtkldoojonnkfgaaGreatDoorB49
namespace Go.Proofs.YtkldoojonnkfgaaGreatDoor
open Go.RowKit Go.Sort
theorem toksP_ok {s:ByteArray} {l:List Tok} (h:toksP s=.ok l):TokOk l∧1≤l.length∧l.length≤1025:=by
 unfold toksP at h
 split at h
 · cases h
 · rename_i hs
   have hl:=toksGo_len s 0 [] l (Nat.zero_le _) h
   refine ⟨toksGo_all s 0 [] l h _ (fun t ht=>by cases ht) (fun j=>⟨Nat.zero_le _,Int.le_refl _,by show (0:Int)≤65535; decide⟩) (fun j n t hj hn=>?_),by simpa using hl.1,by have:=hl.2; simp at this; omega⟩
   have:=nextP_bd s j hj t n hn
   exact ⟨by omega,this.2.2.2.1,this.2.2.2.2⟩
theorem TokOk.sub {l:List Tok} (h:TokOk l):TokOk l.dropLast:=fun t ht=>h t (List.dropLast_subset l ht)
theorem cell_lt {w:World} {b o:Nat} {v:Value} (h:w.cell? ⟨b,o,none⟩=some v):b<w.heap.size:=by
 rcases Nat.lt_or_ge b w.heap.size with h1 | h1
 · exact h1
 · simp [World.cell?,Array.getElem?_eq_none h1] at h
theorem ins_size (m:List UInt8):(⟨m.toArray⟩:ByteArray).size=m.length:=by show m.toArray.size=_; simp
set_option maxHeartbeats 8000000 in
set_option maxRecDepth 100000 in
theorem lawAShown_walk (m:List UInt8) (va:Value) (L:List Op3) (w:World) (hr:Row w va L.length (opc L)) (_hm:m.length≤maxLen) (hT:TabsA w):Calls Tryz.prog 3 #[insV m va] w fun e w'=>e=.returned (.bool true)∧Below w.heap.size w w':=by
 have HT:=Hh hT; clear hT
 have HR:=Hh hr
 obtain ⟨a,c,rfl,_,_⟩:=hr
 have hsz:=ins_size m
 obtain ⟨V,hV⟩:∃ V,w.alloc (.cells #[.string ⟨m.toArray⟩,.slice a L.length c] 24)=V:=⟨_,rfl⟩
 have hbV:Below w.heap.size w V:=by rw [←hV]; (repeat (first | exact Below.refl _ _ | refine Below.drew ?_ | (refine below_gw' ?_ (by first | omega | (simp [go_sem]; done) | (simp [go_sem]; omega)) _) | (refine Below.alloc ?_ (by first | omega | (simp [go_sem]; done) | (simp [go_sem]; omega)) _) | (refine Below.setCell ?_ (by first | omega | (simp [go_sem]; done) | (simp [go_sem]; omega)) _)))
 have hblk:V.heap[w.heap.size]? = some (.cells #[.string ⟨m.toArray⟩,.slice a L.length c] 24 (0,0)):=by rw [←hV]; exact blk_new _ _
 obtain ⟨k0,k1,_,_⟩:=cells2 hblk
 have hlt:=blk_lt hblk
 have hcell:∀ Y,Below V.heap.size V Y→Y.cell? ⟨w.heap.size,0,none⟩=some (.string ⟨m.toArray⟩)∧Y.cell? ⟨w.heap.size,1,none⟩=some (.slice a L.length c)∧w.heap.size<Y.heap.size:=fun Y hb=>⟨(hb.cell (p:=⟨w.heap.size,0,none⟩) hlt).trans k0,(hb.cell (p:=⟨w.heap.size,1,none⟩) hlt).trans k1,Nat.lt_of_lt_of_le hlt hb.size⟩
 have HCELL:=Hh hcell; have HBV:=Hh hbV
 clear hcell hbV hblk
 by_cases hbig:100<m.length∨20<L.length
 · have hal:=alive18 V (HT.out.below HBV.out)
   have HAL:=Hh hal; clear hal
   by_cases h1:100<m.length
   · have h1b:(100:Int)<(m.length:Int):=by omega
     clear hbig h1 hsz _hm
     go_enter Tryz.func3,Tryz.ntmps3
     go_wp2_with fail
     try rw [hV]
     (with_reducible refine HAL.out.mono ?_)
     rintro e w1 ⟨rfl,hb1⟩
     have HB1:=Hh (HBV.out.trans (hb1.mono HBV.out.size))
     clear hb1
     go_wp2_with fail
     go_ret
     exact ⟨rfl,HB1.out⟩
   · have h1b:¬ (100:Int)<(m.length:Int):=by omega
     have h2b:(20:Int)<(L.length:Int):=by omega
     clear hbig h1 hsz _hm
     go_enter Tryz.func3,Tryz.ntmps3
     go_wp2_with fail
     try rw [hV]
     (with_reducible refine HAL.out.mono ?_)
     rintro e w1 ⟨rfl,hb1⟩
     have HB1:=Hh (HBV.out.trans (hb1.mono HBV.out.size))
     clear hb1
     go_wp2_with fail
     go_ret
     exact ⟨rfl,HB1.out⟩
 · have h1b:¬ (100:Int)<(m.length:Int):=by omega
   have h2b:¬ (20:Int)<(L.length:Int):=by omega
   have hln:=listS_len (canonP (m,L)).2
   have hcl:=canonP_len (m,L)
   dsimp only at hcl
   have hshow:=fun X (hb:Below w.heap.size w X)=>show_any m (.slice a L.length c) L X (HT.out.below hb) (HR.out.below hb) (by omega) (by omega) (by omega)
   have HSHOW:=Hh hshow; clear hshow
   have hlg:∀ (X:World) (g:Nat),Below w.heap.size w X→Row X (.slice (some ⟨g,0,none⟩) 1 1) 1 [.string ⟨m.toArray⟩,.slice a L.length c]→Calls Tryz.prog 11 #[.slice (some ⟨g,0,none⟩) 1 1] X fun e w'=>e=.returned (.bool (decide ((findI (m,L)).2=0)))∧Below X.heap.size X w':=fun X g hb h1=>legal_any m _ L g X (HT.out.below hb) h1 (HR.out.below hb) (by omega)
   have hfd:=fun X (hb:Below w.heap.size w X)=>find7_any m (.slice a L.length c) L X (HT.out.below hb) (HR.out.below hb) (by omega)
   unfold FindRes at hfd
   by_cases hf:(findI (m,L)).2=0
   · obtain ⟨hpos,e0,tk,t,hfe,htk,hup,hargs,x,d,hch,hxm,hxl,hfx,hpg,hex,hx4,hal4,hat⟩:=shown_args (m,L) hf
     dsimp only at htk hup hch
     obtain ⟨hok,_,hln5⟩:=toksP_ok htk
     have hokl:TokOk tk:=fun y hy=>hok y (List.mem_cons_of_mem _ (List.mem_append_left _ hy))
     have hln6:tk.length≤1023:=by simp at hln5; omega
     have hne:((showP (m,L)).toList == ([]:List UInt8))=false:=by
      rw [ByteArray.toList_eq]
      cases h:(showP (m,L)).data.toList with
      | nil=>rw [Lib.size_eq,h] at hpos; exact absurd hpos (by decide)
      | cons a b=>rfl
     have hne2:(showP (m,L) == (⟨#[]⟩:ByteArray))=false:=bb_ne (by rintro e; rw [e] at hpos; exact absurd hpos (by decide))
     have htok:=fun X=>toks_any (showP (m,L)) X
     rw [htk] at htok
     unfold TokRes at htok
     have hrup:=fun X=>rupper_any (⟨m.toArray⟩:ByteArray) X (by rw [ins_size]; omega)
     rw [hup] at hrup
     have hself:=bb_self (⟨m.toArray⟩:ByteArray)
     have hself2:((⟨m.toArray⟩:ByteArray) != ⟨m.toArray⟩)=false:=by unfold bne; rw [hself]; rfl
     have hall:=fun v X h=>all_any tk v X h hokl (by omega)
     unfold AllRes at hall
     obtain ⟨AL,hAL⟩:∃ AL,(argsP tk).1=AL:=⟨_,rfl⟩
     rw [hAL] at hch hal4 hat
     simp only [hAL,hargs] at hall
     have hcho:∀ (vs:List (Ar × Option Addr)) (v:Value) (X:World),Below w.heap.size w X→Row X v vs.length (arc vs)→vs.map Prod.fst=AL→Calls Tryz.prog 15 #[.string ⟨m.toArray⟩,v] X fun e w'=>∃ v',e=.returned (.tuple #[insV x.1 v',.int .i64 0])∧Row w' v' x.2.length (opc x.2)∧Below X.heap.size X w':=fun vs v X hb hrv hmv=>by
      have hsz2:∀ y∈vs,y.1.text.size≤1000000:=fun y hy=>by
       have h1:y.1∈AL:=by rw [←hmv]; exact List.mem_map_of_mem hy
       have:=hat _ h1
       omega
      have hl2:vs.length≤500:=by have:=congrArg List.length hmv; simp at this; omega
      have h:=choose_any m vs v X (HT.out.below hb) hrv hsz2 hl2 (by omega) hup
      rw [hmv,hch] at h
      exact h
     obtain ⟨xm,xl⟩:=x
     dsimp only at hcho hxm hxl hfx hpg hx4
     have hfd2:=fun v' X (hb:Below w.heap.size w X) (h2:Row X v' xl.length (opc xl))=>find7_any xm v' xl X (HT.out.below hb) h2 (by omega)
     unfold FindRes at hfd2
     rw [hfe] at hfd
     rw [hfx] at hfd2
     simp only [Option.getD_some] at hfd hfd2
     obtain ⟨S,hS⟩:∃ S,showP (m,L)=S:=⟨_,rfl⟩
     rw [hS] at HSHOW hne hne2
     simp only [hS] at htok
     have HTOK:=Hh htok; have HRUP:=Hh hrup; have HALL:=Hh hall; have HCHO:=Hh hcho; have HFD:=Hh hfd; have HFD2:=Hh hfd2
     clear htok hrup hall hcho hfd hfd2 hlg hargs hch hAL htk hok hokl hup hpos hS hfe hfx hln hcl hbig hsz _hm hf hat hal4
     obtain ⟨ep,eo,em,ea,ee,eal⟩:=e0
     obtain ⟨dp,do_,dm,da,de,dal⟩:=d
     dsimp only at HFD HFD2 hxm hxl hpg hex
     subst hxm hex
     have hxle:((xl.length:Int) == (ea.length:Int))=true:=by rw [beq_iff_eq]; omega
     have hxl0:(xl.length:Int)≤4:=by omega
     have HXL:=Hh hxl
     clear hxl
     have hse:=bb_self (⟨xm.toArray⟩:ByteArray)
     have hse2:=bb_self (⟨de.toArray⟩:ByteArray)
     go_enter Tryz.func3,Tryz.ntmps3
     go_wp2_with fail
     try rw [hV]
     (with_reducible refine (HSHOW.out _ HBV.out).mono ?_)
     rintro e w1 ⟨rfl,hb1⟩
     have HB1V:=Hh hb1
     have HB1:=Hh (HBV.out.trans (hb1.mono HBV.out.size))
     clear hb1
     go_wp2_with fail
     (with_reducible refine (HTOK.out _).mono ?_)
     rintro e w2 ⟨v2,rfl,hr2,hb2⟩
     have hl2t:((⟨1,⟨m.toArray⟩,0,0⟩:Tok)::(tk++[t])).length=tk.length+2:=by simp
     obtain ⟨g,o,cap,rfl,hcap,hg,hcs,hsub⟩:=hr2.tok2 (by simp)
     rw [hl2t] at hcap
     obtain ⟨_,q1,_,_⟩:=hcs 0 _ rfl
     have hrs:=hsub 1 (tk.length+1) (some ⟨g,o+1 * 4,none⟩) (cap - 1) (by omega) (by rw [hl2t]; omega) (fun _=>rfl) (by omega)
     have hpart:(((⟨1,⟨m.toArray⟩,0,0⟩:Tok)::(tk++[t])).take (tk.length+1)).drop 1=tk:=by simp
     rw [hpart,show tk.length+1 - 1=tk.length by omega] at hrs
     have HRS:=Hh hrs
     have HB2V:=Hh (HB1V.out.trans (hb2.mono HB1V.out.size))
     have HB2:=Hh (HB1.out.trans (hb2.mono HB1.out.size))
     rw [hl2t]
     have hcap1:((tk.length:Int)+2)≤(cap:Int):=by omega
     have hcap2:¬ 1=cap:=by omega
     have htl:(tk.length:Int)≤1023:=by omega
     simp only [Nat.zero_mul,Nat.add_zero] at q1
     have hc2:∀ Y,Below w2.heap.size w2 Y→Y.cell? ⟨g,o+1,none⟩=some (.string ⟨m.toArray⟩):=fun Y hb=>(hb.cell (p:=⟨g,o+1,none⟩) hg).trans q1
     have HC2:=Hh hc2
     have hdr:Below w2.heap.size w2 w2.drew:=bl
     have hlt2:¬ ((tk.length:Int)+2<2):=by omega
     have hcp0:(0:Int)<(tk.length:Int)+2:=by omega
     clear hr2 hb2 hcs hsub hrs hpart hl2t hc2
     go_wp2_with fail
     go_region_held3 (fun w'=>w'.cell? ⟨g,o+1,none⟩=some (.string ⟨m.toArray⟩)) (first | exact HC2.out _ hb3v | exact HC2.out _ hdr) (first | ((with_reducible refine (HRUP.out _).mono ?_); rintro e w3 ⟨rfl,hb3⟩; have hb3v:Below w2.heap.size w2 w3:=hdr.trans hb3))
     have HC3:=Hh (fun Y (hb:Below w3.heap.size w3 Y)=>HC2.out Y (hb3v.trans (hb.mono hb3v.size)))
     have HRS3:=Hh (HRS.out.below hb3v)
     have HB3V:=Hh (HB2V.out.trans (hb3v.mono HB2V.out.size))
     have HB3:=Hh (HB2.out.trans (hb3v.mono HB2.out.size))
     clear hb3 hb3v hdr q1
     go_wp2_with fail
     (with_reducible refine (HALL.out _ _ HRS3.out).mono ?_)
     rintro e w4 ⟨a4,c4,vs,rfl,hvs,hr4,_,hb4⟩
     have q4:=HC3.out w4 hb4
     have hg4:=cell_lt q4
     have HR4:=Hh hr4
     have HB4V:=Hh (HB3V.out.trans (hb4.mono HB3V.out.size))
     have HB4:=Hh (HB3.out.trans (hb4.mono HB3.out.size))
     have hcho:=HCHO.out vs _ w4 HB4.out hr4 hvs
     have HCH:=Hh hcho
     clear hr4 hb4 hcho hvs
     go_wp2_with fail
     (with_reducible refine HCH.out.mono ?_)
     rintro e w5 ⟨v5,rfl,hr5,hb5⟩
     have HR5:=Hh hr5
     have HB5V:=Hh (HB4V.out.trans (hb5.mono HB4V.out.size))
     have HB5:=Hh (HB4.out.trans (hb5.mono HB4.out.size))
     obtain ⟨a5,c5,rfl,_,_⟩:=hr5
     obtain ⟨W5,hW5⟩:∃ W5,w5.alloc (.cells #[.string ⟨xm.toArray⟩,.slice a5 xl.length c5] 24)=W5:=⟨_,rfl⟩
     have h5:W5.heap[w5.heap.size]? = some (.cells #[.string ⟨xm.toArray⟩,.slice a5 xl.length c5] 24 (0,0)):=by rw [←hW5]; exact blk_new _ _
     have hbW5:Below w5.heap.size w5 W5:=by rw [←hW5]; (repeat (first | exact Below.refl _ _ | refine Below.drew ?_ | (refine below_gw' ?_ (by first | omega | (simp [go_sem]; done) | (simp [go_sem]; omega)) _) | (refine Below.alloc ?_ (by first | omega | (simp [go_sem]; done) | (simp [go_sem]; omega)) _) | (refine Below.setCell ?_ (by first | omega | (simp [go_sem]; done) | (simp [go_sem]; omega)) _)))
     have HBW5V:=Hh (HB5V.out.trans (hbW5.mono HB5V.out.size))
     have HBW5:=Hh (HB5.out.trans (hbW5.mono HB5.out.size))
     have HR5W:=Hh (HR5.out.below hbW5)
     have H5:=Hh h5
     obtain ⟨j0,j1,j2⟩:=HCELL.out W5 HBW5V.out
     obtain ⟨b5,hb5e⟩:∃ b5,w5.heap.size=b5:=⟨_,rfl⟩
     rw [hb5e] at H5
     clear hb5 hbW5 h5 q4 hg4
     go_wp2_with fail
     (with_reducible refine (HFD.out _ HBW5.out).mono ?_)
     rintro e w6 ⟨v6,rfl,hr6,hb6⟩
     obtain ⟨a6,c6,rfl,_,_⟩:=hr6
     have HB6V:=Hh (HBW5V.out.trans (hb6.mono HBW5V.out.size))
     have HB6:=Hh (HBW5.out.trans (hb6.mono HBW5.out.size))
     have h56:=blk_below H5.out hb6 (blk_lt H5.out)
     obtain ⟨W6,hW6⟩:∃ W6,w6.alloc (.cells #[.int .i64 ep,.int .u8 eo,.string ⟨xm.toArray⟩,.slice a6 ea.length c6,.string ⟨de.toArray⟩,.bool eal] 41)=W6:=⟨_,rfl⟩
     have h6:W6.heap[w6.heap.size]? = some (.cells #[.int .i64 ep,.int .u8 eo,.string ⟨xm.toArray⟩,.slice a6 ea.length c6,.string ⟨de.toArray⟩,.bool eal] 41 (0,0)):=by rw [←hW6]; exact blk_new _ _
     have hbW6:Below w6.heap.size w6 W6:=by rw [←hW6]; (repeat (first | exact Below.refl _ _ | refine Below.drew ?_ | (refine below_gw' ?_ (by first | omega | (simp [go_sem]; done) | (simp [go_sem]; omega)) _) | (refine Below.alloc ?_ (by first | omega | (simp [go_sem]; done) | (simp [go_sem]; omega)) _) | (refine Below.setCell ?_ (by first | omega | (simp [go_sem]; done) | (simp [go_sem]; omega)) _)))
     have h56b:=blk_below h56 hbW6 (blk_lt h56)
     have HBW6:=Hh (HB6.out.trans (hbW6.mono HB6.out.size))
     have HR6:=Hh ((HR5W.out.below hb6).below hbW6)
     have H6:=Hh h6; have H56:=Hh h56b
     obtain ⟨i0,i1,_,_⟩:=cells2 h56b
     have hl56:=blk_lt h56b
     obtain ⟨b6,hb6e⟩:∃ b6,w6.heap.size=b6:=⟨_,rfl⟩
     rw [hb6e] at H6
     clear hb6 hbW6 h56 h56b h6 j0 j1 j2
     go_wp2_with fail
     (with_reducible refine (HFD2.out _ _ HBW6.out HR6.out).mono ?_)
     rintro e w7 ⟨v7,rfl,hr7,hb7⟩
     obtain ⟨a7,c7,rfl,_,_⟩:=hr7
     have h57:=blk_below H56.out hb7 (blk_lt H56.out)
     have h67:=blk_below H6.out hb7 (blk_lt H6.out)
     have HB7:=Hh (HBW6.out.trans (hb7.mono HBW6.out.size))
     obtain ⟨W7,hW7⟩:∃ W7,w7.alloc (.cells #[.int .i64 dp,.int .u8 do_,.string ⟨dm.toArray⟩,.slice a7 da.length c7,.string ⟨de.toArray⟩,.bool dal] 41)=W7:=⟨_,rfl⟩
     have h7:W7.heap[w7.heap.size]? = some (.cells #[.int .i64 dp,.int .u8 do_,.string ⟨dm.toArray⟩,.slice a7 da.length c7,.string ⟨de.toArray⟩,.bool dal] 41 (0,0)):=by rw [←hW7]; exact blk_new _ _
     have hbW7:Below w7.heap.size w7 W7:=by rw [←hW7]; (repeat (first | exact Below.refl _ _ | refine Below.drew ?_ | (refine below_gw' ?_ (by first | omega | (simp [go_sem]; done) | (simp [go_sem]; omega)) _) | (refine Below.alloc ?_ (by first | omega | (simp [go_sem]; done) | (simp [go_sem]; omega)) _) | (refine Below.setCell ?_ (by first | omega | (simp [go_sem]; done) | (simp [go_sem]; omega)) _)))
     have h57b:=blk_below h57 hbW7 (blk_lt h57)
     have h67b:=blk_below h67 hbW7 (blk_lt h67)
     have hbw7:=HB7.out.trans (hbW7.mono HB7.out.size)
     have HBW7:=Hh hbw7
     have hal:=alive18 W7 (HT.out.below hbw7)
     have HAL:=Hh hal
     have H7:=Hh h7; have H57:=Hh h57b; have H67:=Hh h67b
     obtain ⟨b7,hb7e⟩:∃ b7,w7.heap.size=b7:=⟨_,rfl⟩
     rw [hb7e] at H7
     clear hb7 hbW7 h57 h67 h57b h67b h7 hbw7 hal i0 i1 hl56
     go_wp2_with fail
     (with_reducible refine HAL.out.mono ?_)
     rintro e w8 ⟨rfl,hb8⟩
     obtain ⟨x0,x1,_,_⟩:=cells2 (blk_below H57.out hb8 (blk_lt H57.out))
     obtain ⟨⟨y0,y1,y2,y3,y4,y5⟩,_⟩:=cells6 (blk_below H67.out hb8 (blk_lt H67.out))
     obtain ⟨⟨z0,z1,z2,z3,z4,z5⟩,_⟩:=cells6 (blk_below H7.out hb8 (blk_lt H7.out))
     have HB8:=Hh (HBW7.out.trans (hb8.mono HBW7.out.size))
     clear hb8
     by_cases hpe2:dp=ep
     · clear hpg
       subst hpe2
       have hpe:((dp:Int) == (dp:Int))=true:=by simp
       go_wp2_with fail
       go_ret
       refine ⟨?_,HB8.out⟩
       simp
     · have hpe:((dp:Int) == (ep:Int))=false:=by rw [beq_eq_false_iff_ne]; omega
       have hx0:=hpg.resolve_left hpe2
       obtain rfl:=List.length_eq_zero_iff.1 hx0
       obtain rfl:ea=[]:=List.length_eq_zero_iff.1 HXL.out.symm
       clear hpg hpe2 hx0 hxle hxl0 HXL hx4
       go_wp2_with fail
       go_ret
       refine ⟨?_,HB8.out⟩
       simp
   · have hs:showP (m,L)=⟨#[]⟩:=by unfold showP; rw [if_neg hf]
     rw [hs] at HSHOW
     rw [decide_eq_false hf] at hlg
     have HLG:=Hh hlg
     clear hlg hfd hs hf hln hcl hbig hsz _hm
     go_enter Tryz.func3,Tryz.ntmps3
     go_wp2_with fail
     try rw [hV]
     (with_reducible refine (HSHOW.out _ HBV.out).mono ?_)
     rintro e w1 ⟨rfl,hb1⟩
     have hb1w:=HBV.out.trans (hb1.mono HBV.out.size)
     have hal:=alive18 w1 (HT.out.below hb1w)
     have HB1:=Hh hb1; have HB1W:=Hh hb1w; have HAL:=Hh hal
     clear hb1 hb1w hal
     go_wp2_with fail
     (with_reducible refine HAL.out.mono ?_)
     rintro e w2 ⟨rfl,hb2⟩
     have hb2v:=HB1.out.trans (hb2.mono HB1.out.size)
     have hb2w:=HB1W.out.trans (hb2.mono HB1W.out.size)
     obtain ⟨j0,j1,j2⟩:=HCELL.out w2 hb2v
     have hx2:=row_struct w2 [.string ⟨m.toArray⟩,.slice a L.length c] 1 24
     have hlgq:=HLG.out (w2.alloc (.cells #[.string ⟨m.toArray⟩,.slice a L.length c] 24)) w2.heap.size (hb2w.alloc hb2w.size _) hx2
     have HLGQ:=Hh hlgq; have HB2:=Hh (hb2w.alloc hb2w.size (.cells #[.string ⟨m.toArray⟩,.slice a L.length c] 24))
     clear hb2 hb2v hb2w hx2 hlgq
     go_wp2_with fail
     (with_reducible refine HLGQ.out.mono ?_)
     rintro e w3 ⟨rfl,hb3⟩
     have HB3:=Hh (HB2.out.trans (hb3.mono HB2.out.size))
     clear hb3
     go_wp2_with fail
     go_ret
     exact ⟨rfl,HB3.out⟩
end Go.Proofs.YtkldoojonnkfgaaGreatDoor
