/- Joined texts: ReadT, IdxA, ParseA. -/
import Derived.Test.YtkldoojonnkfgaaGreatDoorC33
namespace Go.Proofs.YtkldoojonnkfgaaGreatDoor
open Go.RowKit Go.Sort
theorem upSize7 (s:ByteArray):(upper s).size=s.size:=by show (upper s).data.size=s.data.size; simp [upper]
theorem wordAt_size {l:List Tok} (h:TokOk l) (i:Nat):(wordAt l i).size≤1000000:=by
 unfold wordAt
 split
 · rename_i t ht
   split
   · rw [upSize7]; exact (h t (List.mem_of_getElem? ht)).1
   · show (0:Nat)≤_; omega
 · show (0:Nat)≤_; omega
theorem inner_mem {l:List Tok} {t:Tok} (h:t∈(innerP l).getD []):t∈l:=by
 unfold innerP at h
 split at h
 · exact List.mem_of_mem_drop (List.mem_of_mem_take h)
 · simp at h
theorem inner_ok {l:List Tok} (h:TokOk l):TokOk ((innerP l).getD []):=fun t ht=>h t (inner_mem ht)
theorem inner_len (l:List Tok):((innerP l).getD []).length≤l.length:=by
 unfold innerP
 split
 · simp; omega
 · simp
def RdRes (x:Ar × Int) (ok:Bool) (w:World) (e:Ending) (w':World):Prop:=∃ p,e=.returned (.tuple #[arV x.1 p,.int .i64 x.2,.bool ok])∧OptAt 225 w' x.1.ex (.pointer p)∧Below w.heap.size w w'
abbrev rdC (a:Option Addr) (n c:Nat):Obj:=.cells #[.slice a n c] 185 (0,0)
abbrev arC0:Obj:=.cells #[.int .i64 0,.string ⟨#[]⟩,.pointer none] 84 (0,0)
theorem arBox (w:World) (o:Obj):((w.alloc o).alloc arC0).heap[w.heap.size+1]? = some arC0:=by
 have:=blk_new (w.alloc o) arC0
 rwa [World.size_alloc] at this
theorem ar_fin {w2 w:World} {b:Nat} {o:Option Ex} {p q:Option Addr} {x0 x1 x2:Value} {k:Int} {s:ByteArray} (hb:w2.heap[b]? = some (.cells #[x0,x1,x2] 84 (0,0))) (ho:OptAt 225 w2 o (.pointer p)) (hB:Below w.heap.size w w2) (hle:w.heap.size≤b) (X:World)
 (hX:X=((w2.setCell ⟨b,0,none⟩ (.int .i64 k)).setCell ⟨b,1,none⟩ (.string s)).setCell ⟨b,2,none⟩ (.pointer q)) :
 X.heap[b]? = some (.cells #[.int .i64 k,.string s,.pointer q] 84 (0,0))∧OptAt 225 X o (.pointer p)∧Below w.heap.size w X:=by
 subst hX
 refine ⟨blk_set (blk_set (blk_set hb)),OptAt.setBox (OptAt.setBox (OptAt.setBox ho hb (by decide)) (blk_set hb) (by decide)) (blk_set (blk_set hb)) (by decide),?_⟩
 exact ((hB.setCell (p:=⟨b,0,none⟩) hle _).setCell (p:=⟨b,1,none⟩) hle _).setCell (p:=⟨b,2,none⟩) hle _
set_option maxRecDepth 100000 in
set_option maxHeartbeats 2000000 in
theorem argName_any (l:List Tok) (v:Value) (w:World) (hr:Row w v l.length (tokc l)) (hs:TokOk l) :
 Calls Tryz.prog 102 #[rdV v] w (RdRes (⟨1,wordAt l 0,none⟩,0) (decide (l.length=1) && resvA (wordAt l 0)) w):=by
 have hw:∀ X,Below w.heap.size w X→Calls Tryz.prog 179 #[rdV v,.int .i64 0] X fun e w'=>e=.returned (.string (wordAt l 0))∧Below X.heap.size X w':=fun X hb=>argWord_any l 0 v X (hr.below hb) (by omega) (fun t ht=>by have:=(hs t ht).1; unfold maxLen; omega)
 have hrs:=fun X=>reserved_any (wordAt l 0) X (by have:=wordAt_size hs 0; unfold maxLen; omega)
 obtain ⟨U,hU⟩:∃ U,wordAt l 0=U:=⟨_,rfl⟩
 rw [hU] at hw hrs ⊢
 obtain ⟨q,hq⟩:∃ q,resvA U=q:=⟨_,rfl⟩
 have hrs2:∀ X,Calls Tryz.prog 76 #[.string U] X fun e w'=>e=.returned (.bool q)∧Below X.heap.size X w':=fun X=>by rw [←hq]; exact hrs X
 rw [hq]
 have HW:=Hh hw; have HRS:=Hh hrs2
 clear hw hrs hrs2 hU hq
 obtain ⟨a,c,rfl,_,_⟩:=hr
 unfold RdRes
 dsimp only
 by_cases h1:l.length=1
 · have h1b:((l.length:Int) == 1)=true:=by rw [h1]; rfl
   rw [decide_eq_true h1,Bool.true_and]
   clear h1
   go_enter Tryz.func102,Tryz.ntmps102
   go_wp2_with fail
   have hbW:Below w.heap.size w ((w.alloc (.cells #[.slice a l.length c] 185)).alloc (.cells #[.int .i64 0,.string ⟨#[]⟩,.pointer none] 84)):=bl
   (with_reducible refine (HW.out _ hbW).mono ?_)
   rintro e w2 ⟨rfl,hb2⟩
   have hrd:=blk_below (blk_alloc (o':=arC0) (blk_new w (rdC a l.length c))) hb2 (by simp; omega)
   have h12:=blk_below (arBox w (rdC a l.length c)) hb2 (by simp)
   have q0:=blk_cell hrd 0
   simp only [List.getElem?_toArray,List.getElem?_cons_zero] at q0
   have hl2:=blk_lt h12
   have hl1:w.heap.size<w2.heap.size:=by omega
   have H12:=Hh h12
   have HB2:=Hh (hbW.trans (hb2.mono hbW.size))
   clear hbW hb2 hrd h12
   go_wp2_with fail
   (with_reducible refine (HRS.out _).mono ?_)
   rintro e w3 ⟨rfl,hb3⟩
   have h13:=blk_below H12.out hb3 hl2
   have HB3:=Hh (HB2.out.trans (hb3.mono HB2.out.size))
   obtain ⟨k0,k1,k2,f0,f1,f2⟩:=cells3 h13
   have H13:=Hh h13
   clear hb3 h13 q0
   go_wp2_with fail
   obtain ⟨g1,g2,g3⟩:=ar_fin (q:=none) (k:=1) (s:=U) H13.out (show OptAt 225 w3 none (.pointer none) from rfl) HB3.out (Nat.le_succ _) _ rfl
   obtain ⟨n0,n1,n2,_⟩:=cells3 g1
   refine bodyPost_ret (v:=.tuple #[.agg #[.int .i64 1,.string U,.pointer none],.int .i64 0,.bool q]) (by simp [results,Tryz.results102,go_sem,n0,n1,n2]) rfl ⟨none,rfl,g2,g3⟩
 · have h1b:((l.length:Int) == 1)=false:=by rw [beq_eq_false_iff_ne]; omega
   rw [decide_eq_false h1,Bool.false_and]
   clear h1
   go_enter Tryz.func102,Tryz.ntmps102
   go_wp2_with fail
   have hbW:Below w.heap.size w ((w.alloc (.cells #[.slice a l.length c] 185)).alloc (.cells #[.int .i64 0,.string ⟨#[]⟩,.pointer none] 84)):=bl
   (with_reducible refine (HW.out _ hbW).mono ?_)
   rintro e w2 ⟨rfl,hb2⟩
   have hrd:=blk_below (blk_alloc (o':=arC0) (blk_new w (rdC a l.length c))) hb2 (by simp; omega)
   have h12:=blk_below (arBox w (rdC a l.length c)) hb2 (by simp)
   have q0:=blk_cell hrd 0
   simp only [List.getElem?_toArray,List.getElem?_cons_zero] at q0
   obtain ⟨k0,k1,k2,f0,f1,f2⟩:=cells3 h12
   have hl2:=blk_lt h12
   have hl1:w.heap.size<w2.heap.size:=by omega
   have H12:=Hh h12
   have HB2:=Hh (hbW.trans (hb2.mono hbW.size))
   clear hbW hb2 hrd h12
   go_wp2_with fail
   obtain ⟨g1,g2,g3⟩:=ar_fin (q:=none) (k:=1) (s:=U) H12.out (show OptAt 225 w2 none (.pointer none) from rfl) HB2.out (Nat.le_succ _) _ rfl
   obtain ⟨n0,n1,n2,_⟩:=cells3 g1
   refine bodyPost_ret (v:=.tuple #[.agg #[.int .i64 1,.string U,.pointer none],.int .i64 0,.bool false]) (by simp [results,Tryz.results102,go_sem,n0,n1,n2]) rfl ⟨none,rfl,g2,g3⟩
set_option maxRecDepth 100000 in
set_option maxHeartbeats 2000000 in
theorem argValue_any (l:List Tok) (v:Value) (w:World) (hr:Row w v l.length (tokc l)) (hs:TokOk l) (hl:l.length≤1000000) :
 Calls Tryz.prog 106 #[rdV v] w (RdRes (exprA 4 ⟨#[]⟩ l) true w):=by
 have hx:=fun X (hb:Below w.heap.size w X)=>expression_any l v 4 ⟨#[]⟩ X (hr.below hb) hs hl
 obtain ⟨x,hxe⟩:∃ x,exprA 4 ⟨#[]⟩ l=x:=⟨_,rfl⟩
 rw [hxe] at hx ⊢
 unfold ArRes at hx
 obtain ⟨⟨kd,tx,ex⟩,cd⟩:=x
 dsimp only at hx
 have HX:=Hh hx; clear hx hxe
 obtain ⟨a,c,rfl,_,_⟩:=hr
 unfold RdRes
 dsimp only
 go_enter Tryz.func106,Tryz.ntmps106
 go_wp2_with fail
 have hbW:Below w.heap.size w ((w.alloc (.cells #[.slice a l.length c] 185)).alloc (.cells #[.int .i64 0,.string ⟨#[]⟩,.pointer none] 84)):=bl
 (with_reducible refine (HX.out _ hbW).mono ?_)
 rintro e w2 ⟨p,rfl,ho,hb2⟩
 have h12:=blk_below (arBox w (rdC a l.length c)) hb2 (by simp)
 obtain ⟨k0,k1,k2,f0,f1,f2⟩:=cells3 h12
 have hl2:=blk_lt h12
 have H12:=Hh h12
 have HO:=Hh ho
 have HB2:=Hh (hbW.trans (hb2.mono hbW.size))
 clear hbW hb2 h12 ho
 go_wp2_with fail
 obtain ⟨g1,g2,g3⟩:=ar_fin (q:=p) (k:=kd) (s:=tx) H12.out HO.out HB2.out (Nat.le_succ _) _ rfl
 have g4:=blk_alloc (o':=.cells #[.int .i64 kd,.string tx,.pointer p] 84) g1
 have g5:=g2.below ((Below.refl _ _).alloc (Nat.le_refl _) (.cells #[.int .i64 kd,.string tx,.pointer p] 84))
 obtain ⟨n0,n1,n2,_⟩:=cells3 g4
 refine bodyPost_ret (v:=.tuple #[.agg #[.int .i64 kd,.string tx,.pointer p],.int .i64 cd,.bool true]) (by simp [results,Tryz.results106,go_sem,n0,n1,n2]) rfl ⟨p,rfl,g5,g3.alloc g3.size _⟩
set_option maxRecDepth 100000 in
set_option maxHeartbeats 2000000 in
theorem place_raw (l M:List Tok) (B:Bool) (v:Value) (w:World) (hr:Row w v l.length (tokc l)) (hs:TokOk l) (hl:l.length≤1000000) (hB:(innerP l).isSome=B) (hM:(innerP l).getD []=M) :
 Calls Tryz.prog 105 #[rdV v] w (RdRes (if B=true then exprA 5 ⟨#[]⟩ M else (ar0,0)) B w):=by
 have hin:=fun X (hb:Below w.heap.size w X)=>inner_any l v X (hr.below hb) hl
 have hMs:TokOk M:=by rw [←hM]; exact inner_ok hs
 have hMl:M.length≤1000000:=by rw [←hM]; exact Nat.le_trans (inner_len l) hl
 rw [hB,hM] at hin
 have hx:=fun X v2 h=>expression_any M v2 5 ⟨#[]⟩ X h hMs hMl
 have HIN:=Hh hin; clear hin hB hM hMs hMl
 obtain ⟨a,c,rfl,_,_⟩:=hr
 unfold RdRes
 cases B with
 | false =>
   rw [if_neg (by decide)]
   clear hx
   show Calls Tryz.prog 105 #[rdV (.slice a l.length c)] w fun e w'=>∃ p,e=.returned (.tuple #[.agg #[.int .i64 0,.string ⟨#[]⟩,.pointer p],.int .i64 0,.bool false])∧OptAt 225 w' none (.pointer p)∧Below w.heap.size w w'
   go_enter Tryz.func105,Tryz.ntmps105
   go_wp2_with fail
   have hbW:Below w.heap.size w ((w.alloc (.cells #[.slice a l.length c] 185)).alloc (.cells #[.int .i64 0,.string ⟨#[]⟩,.pointer none] 84)):=bl
   (with_reducible refine (HIN.out _ hbW).mono ?_)
   rintro e w2 ⟨ai,ni,ci,rfl,hri,hb2⟩
   have h12:=blk_below (arBox w (rdC a l.length c)) hb2 (by simp)
   obtain ⟨k0,k1,k2,f0,f1,f2⟩:=cells3 h12
   have hl2:=blk_lt h12
   have H12:=Hh h12
   have HB2:=Hh (hbW.trans (hb2.mono hbW.size))
   clear hbW hb2 h12 hri
   go_wp2_with fail
   obtain ⟨g1,g2,g3⟩:=ar_fin (q:=none) (k:=0) (s:=⟨#[]⟩) H12.out (show OptAt 225 w2 none (.pointer none) from rfl) HB2.out (Nat.le_succ _) _ rfl
   have g4:=blk_alloc (o':=.cells #[.slice ai ni ci] 185) g1
   obtain ⟨n0,n1,n2,_⟩:=cells3 g4
   refine bodyPost_ret (v:=.tuple #[.agg #[.int .i64 0,.string ⟨#[]⟩,.pointer none],.int .i64 0,.bool false]) (by simp [results,Tryz.results105,go_sem,n0,n1,n2]) rfl ⟨none,rfl,rfl,g3.alloc g3.size _⟩
 | true =>
   rw [if_pos rfl]
   obtain ⟨x,hxe⟩:∃ x,exprA 5 ⟨#[]⟩ M=x:=⟨_,rfl⟩
   rw [hxe] at hx ⊢
   unfold ArRes at hx
   obtain ⟨⟨kd,tx,ex⟩,cd⟩:=x
   dsimp only at hx ⊢
   have HX:=Hh hx; clear hx hxe
   go_enter Tryz.func105,Tryz.ntmps105
   go_wp2_with fail
   have hbW:Below w.heap.size w ((w.alloc (.cells #[.slice a l.length c] 185)).alloc (.cells #[.int .i64 0,.string ⟨#[]⟩,.pointer none] 84)):=bl
   (with_reducible refine (HIN.out _ hbW).mono ?_)
   rintro e w2 ⟨ai,ni,ci,rfl,hri,hb2⟩
   have h12:=blk_below (arBox w (rdC a l.length c)) hb2 (by simp)
   have hl2:=blk_lt h12
   have H12:=Hh h12
   have HRI:=Hh hri
   have HB2:=Hh (hbW.trans (hb2.mono hbW.size))
   clear hbW hb2 h12 hri
   go_wp2_with fail
   have hal:Below w2.heap.size w2 (w2.alloc (.cells #[.slice ai ni ci] 185)):=(Below.refl _ _).alloc (Nat.le_refl _) _
   have hn:ni=M.length:=by obtain ⟨_,_,h,_⟩:=HRI.out; cases h; rfl
   (with_reducible refine (HX.out _ _ (HRI.out.below hal)).mono ?_)
   rintro e w3 ⟨p,rfl,ho,hb3⟩
   have hb23:=hal.trans (hb3.mono hal.size)
   have h13:=blk_below H12.out hb23 hl2
   obtain ⟨k0,k1,k2,f0,f1,f2⟩:=cells3 h13
   have hl3:=blk_lt h13
   have H13:=Hh h13
   have HO:=Hh ho
   have HB3:=Hh (HB2.out.trans (hb23.mono HB2.out.size))
   clear hal hb23 hb3 h13 ho hn
   go_wp2_with fail
   obtain ⟨g1,g2,g3⟩:=ar_fin (q:=p) (k:=kd) (s:=tx) H13.out HO.out HB3.out (Nat.le_succ _) _ rfl
   have g4:=blk_alloc (o':=.cells #[.int .i64 kd,.string tx,.pointer p] 84) g1
   have g5:=g2.below ((Below.refl _ _).alloc (Nat.le_refl _) (.cells #[.int .i64 kd,.string tx,.pointer p] 84))
   obtain ⟨n0,n1,n2,_⟩:=cells3 g4
   refine bodyPost_ret (v:=.tuple #[.agg #[.int .i64 kd,.string tx,.pointer p],.int .i64 cd,.bool true]) (by simp [results,Tryz.results105,go_sem,n0,n1,n2]) rfl ⟨p,rfl,g5,g3.alloc g3.size _⟩
set_option maxRecDepth 100000 in
set_option maxHeartbeats 2000000 in
theorem point_raw (l M:List Tok) (B:Bool) (v:Value) (w:World) (hr:Row w v l.length (tokc l)) (hs:TokOk l) (hl:l.length≤1000000) (hB:(innerP l).isSome=B) (hM:(innerP l).getD []=M) :
 Calls Tryz.prog 103 #[rdV v] w (RdRes (⟨2,wordAt M 0,none⟩,0) (B && decide (M.length=1) && (regP (wordAt M 0)).isSome) w):=by
 have hin:=fun X (hb:Below w.heap.size w X)=>inner_any l v X (hr.below hb) hl
 have hMs:TokOk M:=by rw [←hM]; exact inner_ok hs
 rw [hB,hM] at hin
 have hw:∀ X v2,Row X v2 M.length (tokc M)→Calls Tryz.prog 179 #[rdV v2,.int .i64 0] X fun e w'=>e=.returned (.string (wordAt M 0))∧Below X.heap.size X w':=fun X v2 h=>argWord_any M 0 v2 X h (by omega) (fun t ht=>by have:=(hMs t ht).1; unfold maxLen; omega)
 have hrg:=fun X=>argReg_any (wordAt M 0) X (by have:=wordAt_size hMs 0; unfold maxLen; omega)
 obtain ⟨U,hU⟩:∃ U,wordAt M 0=U:=⟨_,rfl⟩
 rw [hU] at hw hrg ⊢
 obtain ⟨q,hq⟩:∃ q,regP U=q:=⟨_,rfl⟩
 rw [hq] at hrg ⊢
 have hrg2:∃ r:Int,∀ X,Calls Tryz.prog 181 #[.string U] X fun e w'=>e=.returned (.tuple #[.int .i64 r,.bool q.isSome])∧Below X.heap.size X w':=by
  cases q with
  | none=>exact ⟨0,hrg⟩
  | some r=>exact ⟨r,hrg⟩
 obtain ⟨r,hrg3⟩:=hrg2
 obtain ⟨t,ht⟩:∃ t,q.isSome=t:=⟨_,rfl⟩
 rw [ht] at hrg3 ⊢
 have HIN:=Hh hin; have HW:=Hh hw; have HRG:=Hh hrg3
 clear hin hw hrg hrg3 hq hU hMs hB hM ht
 obtain ⟨a,c,rfl,_,_⟩:=hr
 obtain ⟨z,hz⟩:∃ z,(B && decide (M.length=1) && t)=z:=⟨_,rfl⟩
 rw [hz]
 unfold RdRes
 dsimp only
 have hone:((M.length:Int) == 1)=decide (M.length=1):=by by_cases h:M.length=1<;>simp [h]<;>omega
 have HZ:=Hh (show (B && ((M.length:Int) == 1) && t)=z by rw [hone]; exact hz)
 clear hz hone
 go_enter Tryz.func103,Tryz.ntmps103
 go_wp2_with fail
 have hbW:Below w.heap.size w ((w.alloc (.cells #[.slice a l.length c] 185)).alloc (.cells #[.int .i64 0,.string ⟨#[]⟩,.pointer none] 84)):=bl
 (with_reducible refine (HIN.out _ hbW).mono ?_)
 rintro e w2 ⟨ai,ni,ci,rfl,hri,hb2⟩
 have h12:=blk_below (arBox w (rdC a l.length c)) hb2 (by simp)
 have hl2:=blk_lt h12
 have hn:ni=M.length:=by obtain ⟨_,_,h,_⟩:=hri; cases h; rfl
 subst hn
 have H12:=Hh h12
 have HRI:=Hh hri
 have HB2:=Hh (hbW.trans (hb2.mono hbW.size))
 clear hbW hb2 h12 hri
 go_wp2_with fail
 have hal:Below w2.heap.size w2 (w2.alloc (.cells #[.slice ai M.length ci] 185)):=(Below.refl _ _).alloc (Nat.le_refl _) _
 have hib:=blk_new w2 (.cells #[.slice ai M.length ci] 185)
 (with_reducible refine (HW.out _ _ (HRI.out.below hal)).mono ?_)
 rintro e w3 ⟨rfl,hb3⟩
 have hb23:=hal.trans (hb3.mono hal.size)
 have hib3:=blk_below hib hb3 (by rw [World.size_alloc]; omega)
 have h13:=blk_below H12.out hb23 hl2
 have hli:=blk_lt hib3
 have hl3:=blk_lt h13
 have H13:=Hh h13; have HIB:=Hh hib3
 have HB3:=Hh (HB2.out.trans (hb23.mono HB2.out.size))
 clear hal hb23 hb3 h13 hib hib3
 go_wp2_with fail
 (with_reducible refine (HRG.out _).mono ?_)
 rintro e w4 ⟨rfl,hb4⟩
 have h14:=blk_below H13.out hb4 hl3
 have hib4:=blk_below HIB.out hb4 hli
 obtain ⟨k0,k1,k2,f0,f1,f2⟩:=cells3 h14
 have q0:=blk_cell hib4 0
 simp only [List.getElem?_toArray,List.getElem?_cons_zero] at q0
 have hl4:=blk_lt h14
 have hli4:=blk_lt hib4
 have H14:=Hh h14
 have HB4:=Hh (HB3.out.trans (hb4.mono HB3.out.size))
 clear hb4 h14 hib4
 obtain ⟨g1,g2,g3⟩:=ar_fin (q:=none) (k:=2) (s:=U) H14.out (show OptAt 225 w4 none (.pointer none) from rfl) HB4.out (Nat.le_succ _) _ rfl
 have HG1:=Hh g1; have HG2:=Hh g2; have HG3:=Hh g3
 clear g1 g2 g3
 cases B with
 | false =>
   obtain rfl:z=false:=by rw [←HZ.out]; simp
   go_wp2_with fail
   obtain ⟨n0,n1,n2,_⟩:=cells3 HG1.out
   refine bodyPost_ret (v:=.tuple #[.agg #[.int .i64 2,.string U,.pointer none],.int .i64 0,.bool false]) (by simp [results,Tryz.results103,go_sem,n0,n1,n2]) rfl ⟨none,rfl,HG2.out,HG3.out⟩
 | true =>
   rcases hm:((M.length:Int) == 1) with _ | _
   · obtain rfl:z=false:=by rw [←HZ.out,hm]; simp
     go_wp2_with fail
     obtain ⟨n0,n1,n2,_⟩:=cells3 HG1.out
     refine bodyPost_ret (v:=.tuple #[.agg #[.int .i64 2,.string U,.pointer none],.int .i64 0,.bool false]) (by simp [results,Tryz.results103,go_sem,n0,n1,n2]) rfl ⟨none,rfl,HG2.out,HG3.out⟩
   · obtain rfl:z=t:=by rw [←HZ.out,hm]; simp
     go_wp2_with fail
     obtain ⟨n0,n1,n2,_⟩:=cells3 HG1.out
     refine bodyPost_ret (v:=.tuple #[.agg #[.int .i64 2,.string U,.pointer none],.int .i64 0,.bool z]) (by simp [results,Tryz.results103,go_sem,n0,n1,n2]) rfl ⟨none,rfl,HG2.out,HG3.out⟩
theorem tok_one {w:World} {v:Value} {M:List Tok} {t:Tok} (h:Row w v M.length (tokc M)) (ht:M[1]? = some t):∃ g o c,v=.slice (some ⟨g,o,none⟩) M.length c∧M.length≤c∧g<w.heap.size∧w.cell? ⟨g,o+4,none⟩=some (.int .i64 t.kind)∧w.cell? ⟨g,o+4+1,none⟩=some (.string t.text)∧w.cell? ⟨g,o+4+2,none⟩=some (.int .i64 t.n)∧w.cell? ⟨g,o+4+3,none⟩=some (.int .i64 t.off) ∧
 Row w (.slice (some ⟨g,o+4,none⟩) (M.length - 1) (c - 1)) (M.drop 1).length (tokc (M.drop 1)):=by
 have hlt:=(List.getElem?_eq_some_iff.1 ht).1
 obtain ⟨g,o,c,hv,hc,hg,hcs,hsub⟩:=Row.tok2 h (by rintro rfl; simp at hlt)
 have hk:=hcs 1 t ht
 have hs:=hsub 1 M.length (some ⟨g,o+4,none⟩) (c - 1) (by omega) (Nat.le_refl _) (fun _=>by simp) (by omega)
 rw [List.take_length] at hs
 simp only [Nat.one_mul] at hk
 exact ⟨g,o,c,hv,hc,hg,hk.1,hk.2.1,hk.2.2.1,hk.2.2.2,hs⟩
set_option maxRecDepth 100000 in
set_option maxHeartbeats 2000000 in
theorem idx_none (l M:List Tok) (v:Value) (w:World) (hr:Row w v l.length (tokc l)) (hs:TokOk l) (hl:l.length≤1000000) (hB:(innerP l).isSome=false) (hM:(innerP l).getD []=M) :
 Calls Tryz.prog 104 #[rdV v] w (RdRes (ar0,0) false w):=by
 have hin:=fun X (hb:Below w.heap.size w X)=>inner_any l v X (hr.below hb) hl
 have hMs:TokOk M:=by rw [←hM]; exact inner_ok hs
 have hMl:M.length≤1000000:=by rw [←hM]; exact Nat.le_trans (inner_len l) hl
 rw [hB,hM] at hin
 have hw:∀ X v2,Row X v2 M.length (tokc M)→Calls Tryz.prog 179 #[rdV v2,.int .i64 0] X fun e w'=>e=.returned (.string (wordAt M 0))∧Below X.heap.size X w':=fun X v2 h=>argWord_any M 0 v2 X h (by omega) (fun t ht=>by have:=(hMs t ht).1; unfold maxLen; omega)
 obtain ⟨U,hU⟩:∃ U,wordAt M 0=U:=⟨_,rfl⟩
 rw [hU] at hw
 have HIN:=Hh hin; have HW:=Hh hw
 clear hin hw hMs hMl hB hM hU
 obtain ⟨a,c,rfl,_,_⟩:=hr
 unfold RdRes
 show Calls Tryz.prog 104 #[rdV (.slice a l.length c)] w fun e w'=>∃ p,e=.returned (.tuple #[.agg #[.int .i64 0,.string ⟨#[]⟩,.pointer p],.int .i64 0,.bool false])∧OptAt 225 w' none (.pointer p)∧Below w.heap.size w w'
 go_enter Tryz.func104,Tryz.ntmps104
 go_wp2_with fail
 have hbW:Below w.heap.size w ((w.alloc (.cells #[.slice a l.length c] 185)).alloc (.cells #[.int .i64 0,.string ⟨#[]⟩,.pointer none] 84)):=bl
 (with_reducible refine (HIN.out _ hbW).mono ?_)
 rintro e w2 ⟨ai,ni,ci,rfl,hri,hb2⟩
 have h12:=blk_below (arBox w (rdC a l.length c)) hb2 (by simp)
 have hl2:=blk_lt h12
 have hn:ni=M.length:=by obtain ⟨_,_,h,_⟩:=hri; cases h; rfl
 subst hn
 have H12:=Hh h12
 have HRI:=Hh hri
 have HB2:=Hh (hbW.trans (hb2.mono hbW.size))
 clear hbW hb2 h12 hri
 go_wp2_with fail
 have hal:Below w2.heap.size w2 (w2.alloc (.cells #[.slice ai M.length ci] 185)):=(Below.refl _ _).alloc (Nat.le_refl _) _
 have hib:=blk_new w2 (.cells #[.slice ai M.length ci] 185)
 (with_reducible refine (HW.out _ _ (HRI.out.below hal)).mono ?_)
 rintro e w3 ⟨rfl,hb3⟩
 have hb23:=hal.trans (hb3.mono hal.size)
 have hib3:=blk_below hib hb3 (by rw [World.size_alloc]; omega)
 have h13:=blk_below H12.out hb23 hl2
 have hli:=blk_lt hib3
 have hl3:=blk_lt h13
 have q0:=blk_cell hib3 0
 simp only [List.getElem?_toArray,List.getElem?_cons_zero] at q0
 obtain ⟨k0,k1,k2,f0,f1,f2⟩:=cells3 h13
 have H13:=Hh h13; have HIB:=Hh hib3
 have HR3:=Hh (HRI.out.below hb23)
 have HB3:=Hh (HB2.out.trans (hb23.mono HB2.out.size))
 clear hal hb23 hb3 h13 hib hib3
 go_wp2_with fail
 obtain ⟨g1,g2,g3⟩:=ar_fin (q:=none) (k:=0) (s:=⟨#[]⟩) H13.out (show OptAt 225 w3 none (.pointer none) from rfl) HB3.out (Nat.le_succ _) _ rfl
 obtain ⟨n0,n1,n2,_⟩:=cells3 g1
 refine bodyPost_ret (v:=.tuple #[.agg #[.int .i64 0,.string ⟨#[]⟩,.pointer none],.int .i64 0,.bool false]) (by simp [results,Tryz.results104,go_sem,n0,n1,n2]) rfl ⟨none,rfl,rfl,g3⟩
set_option maxRecDepth 100000 in
set_option maxHeartbeats 2000000 in
theorem idx_word (l M:List Tok) (v:Value) (w:World) (hr:Row w v l.length (tokc l)) (hs:TokOk l) (hl:l.length≤1000000) (hB:(innerP l).isSome=true) (hM:(innerP l).getD []=M) (hx:ixW (wordAt M 0)=false) :
 Calls Tryz.prog 104 #[rdV v] w (RdRes (ar0,0) false w):=by
 have hin:=fun X (hb:Below w.heap.size w X)=>inner_any l v X (hr.below hb) hl
 have hMs:TokOk M:=by rw [←hM]; exact inner_ok hs
 have hMl:M.length≤1000000:=by rw [←hM]; exact Nat.le_trans (inner_len l) hl
 rw [hB,hM] at hin
 have hw:∀ X v2,Row X v2 M.length (tokc M)→Calls Tryz.prog 179 #[rdV v2,.int .i64 0] X fun e w'=>e=.returned (.string (wordAt M 0))∧Below X.heap.size X w':=fun X v2 h=>argWord_any M 0 v2 X h (by omega) (fun t ht=>by have:=(hMs t ht).1; unfold maxLen; omega)
 obtain ⟨U,hU⟩:∃ U,wordAt M 0=U:=⟨_,rfl⟩
 rw [hU] at hw
 rw [hU] at hx
 have hx1:(U.toList == [73,88])=false:=by unfold ixW at hx; cases h:(U.toList == [73,88]) with | true=>rw [h] at hx; cases hx | false=>rfl
 have hx2:(U.toList == [73,89])=false:=by unfold ixW at hx; cases h:(U.toList == [73,89]) with | true=>rw [h,Bool.or_true] at hx; cases hx | false=>rfl
 clear hx
 have HIN:=Hh hin; have HW:=Hh hw
 clear hin hw hMs hMl hB hM hU
 obtain ⟨a,c,rfl,_,_⟩:=hr
 unfold RdRes
 show Calls Tryz.prog 104 #[rdV (.slice a l.length c)] w fun e w'=>∃ p,e=.returned (.tuple #[.agg #[.int .i64 0,.string ⟨#[]⟩,.pointer p],.int .i64 0,.bool false])∧OptAt 225 w' none (.pointer p)∧Below w.heap.size w w'
 go_enter Tryz.func104,Tryz.ntmps104
 go_wp2_with fail
 have hbW:Below w.heap.size w ((w.alloc (.cells #[.slice a l.length c] 185)).alloc (.cells #[.int .i64 0,.string ⟨#[]⟩,.pointer none] 84)):=bl
 (with_reducible refine (HIN.out _ hbW).mono ?_)
 rintro e w2 ⟨ai,ni,ci,rfl,hri,hb2⟩
 have h12:=blk_below (arBox w (rdC a l.length c)) hb2 (by simp)
 have hl2:=blk_lt h12
 have hn:ni=M.length:=by obtain ⟨_,_,h,_⟩:=hri; cases h; rfl
 subst hn
 have H12:=Hh h12
 have HRI:=Hh hri
 have HB2:=Hh (hbW.trans (hb2.mono hbW.size))
 clear hbW hb2 h12 hri
 go_wp2_with fail
 have hal:Below w2.heap.size w2 (w2.alloc (.cells #[.slice ai M.length ci] 185)):=(Below.refl _ _).alloc (Nat.le_refl _) _
 have hib:=blk_new w2 (.cells #[.slice ai M.length ci] 185)
 (with_reducible refine (HW.out _ _ (HRI.out.below hal)).mono ?_)
 rintro e w3 ⟨rfl,hb3⟩
 have hb23:=hal.trans (hb3.mono hal.size)
 have hib3:=blk_below hib hb3 (by rw [World.size_alloc]; omega)
 have h13:=blk_below H12.out hb23 hl2
 have hli:=blk_lt hib3
 have hl3:=blk_lt h13
 have q0:=blk_cell hib3 0
 simp only [List.getElem?_toArray,List.getElem?_cons_zero] at q0
 obtain ⟨k0,k1,k2,f0,f1,f2⟩:=cells3 h13
 have H13:=Hh h13; have HIB:=Hh hib3
 have HR3:=Hh (HRI.out.below hb23)
 have HB3:=Hh (HB2.out.trans (hb23.mono HB2.out.size))
 clear hal hb23 hb3 h13 hib hib3
 go_wp2_with fail
 obtain ⟨g1,g2,g3⟩:=ar_fin (q:=none) (k:=0) (s:=⟨#[]⟩) H13.out (show OptAt 225 w3 none (.pointer none) from rfl) HB3.out (Nat.le_succ _) _ rfl
 obtain ⟨n0,n1,n2,_⟩:=cells3 g1
 refine bodyPost_ret (v:=.tuple #[.agg #[.int .i64 0,.string ⟨#[]⟩,.pointer none],.int .i64 0,.bool false]) (by simp [results,Tryz.results104,go_sem,n0,n1,n2]) rfl ⟨none,rfl,rfl,g3⟩
set_option maxRecDepth 100000 in
set_option maxHeartbeats 2000000 in
theorem idx_short_ix (l M:List Tok) (v:Value) (w:World) (hr:Row w v l.length (tokc l)) (hs:TokOk l) (hl:l.length≤1000000) (hB:(innerP l).isSome=true) (hM:(innerP l).getD []=M) (hx1:((wordAt M 0).toList == [73,88])=true) (h3:M.length<3) :
 Calls Tryz.prog 104 #[rdV v] w (RdRes (ar0,0) false w):=by
 have hin:=fun X (hb:Below w.heap.size w X)=>inner_any l v X (hr.below hb) hl
 have hMs:TokOk M:=by rw [←hM]; exact inner_ok hs
 have hMl:M.length≤1000000:=by rw [←hM]; exact Nat.le_trans (inner_len l) hl
 rw [hB,hM] at hin
 have hw:∀ X v2,Row X v2 M.length (tokc M)→Calls Tryz.prog 179 #[rdV v2,.int .i64 0] X fun e w'=>e=.returned (.string (wordAt M 0))∧Below X.heap.size X w':=fun X v2 h=>argWord_any M 0 v2 X h (by omega) (fun t ht=>by have:=(hMs t ht).1; unfold maxLen; omega)
 obtain ⟨U,hU⟩:∃ U,wordAt M 0=U:=⟨_,rfl⟩
 rw [hU] at hw
 rw [hU] at hx1
 have HIN:=Hh hin; have HW:=Hh hw
 clear hin hw hMs hMl hB hM hU
 obtain ⟨a,c,rfl,_,_⟩:=hr
 unfold RdRes
 show Calls Tryz.prog 104 #[rdV (.slice a l.length c)] w fun e w'=>∃ p,e=.returned (.tuple #[.agg #[.int .i64 0,.string ⟨#[]⟩,.pointer p],.int .i64 0,.bool false])∧OptAt 225 w' none (.pointer p)∧Below w.heap.size w w'
 go_enter Tryz.func104,Tryz.ntmps104
 go_wp2_with fail
 have hbW:Below w.heap.size w ((w.alloc (.cells #[.slice a l.length c] 185)).alloc (.cells #[.int .i64 0,.string ⟨#[]⟩,.pointer none] 84)):=bl
 (with_reducible refine (HIN.out _ hbW).mono ?_)
 rintro e w2 ⟨ai,ni,ci,rfl,hri,hb2⟩
 have h12:=blk_below (arBox w (rdC a l.length c)) hb2 (by simp)
 have hl2:=blk_lt h12
 have hn:ni=M.length:=by obtain ⟨_,_,h,_⟩:=hri; cases h; rfl
 subst hn
 have H12:=Hh h12
 have HRI:=Hh hri
 have HB2:=Hh (hbW.trans (hb2.mono hbW.size))
 clear hbW hb2 h12 hri
 go_wp2_with fail
 have hal:Below w2.heap.size w2 (w2.alloc (.cells #[.slice ai M.length ci] 185)):=(Below.refl _ _).alloc (Nat.le_refl _) _
 have hib:=blk_new w2 (.cells #[.slice ai M.length ci] 185)
 (with_reducible refine (HW.out _ _ (HRI.out.below hal)).mono ?_)
 rintro e w3 ⟨rfl,hb3⟩
 have hb23:=hal.trans (hb3.mono hal.size)
 have hib3:=blk_below hib hb3 (by rw [World.size_alloc]; omega)
 have h13:=blk_below H12.out hb23 hl2
 have hli:=blk_lt hib3
 have hl3:=blk_lt h13
 have q0:=blk_cell hib3 0
 simp only [List.getElem?_toArray,List.getElem?_cons_zero] at q0
 obtain ⟨k0,k1,k2,f0,f1,f2⟩:=cells3 h13
 have H13:=Hh h13; have HIB:=Hh hib3
 have HR3:=Hh (HRI.out.below hb23)
 have HB3:=Hh (HB2.out.trans (hb23.mono HB2.out.size))
 clear hal hb23 hb3 h13 hib hib3
 have h3i:(M.length:Int)<3:=by omega
 go_wp2_with fail
 obtain ⟨g1,g2,g3⟩:=ar_fin (q:=none) (k:=0) (s:=⟨#[]⟩) H13.out (show OptAt 225 w3 none (.pointer none) from rfl) HB3.out (Nat.le_succ _) _ rfl
 obtain ⟨n0,n1,n2,_⟩:=cells3 g1
 refine bodyPost_ret (v:=.tuple #[.agg #[.int .i64 0,.string ⟨#[]⟩,.pointer none],.int .i64 0,.bool false]) (by simp [results,Tryz.results104,go_sem,n0,n1,n2]) rfl ⟨none,rfl,rfl,g3⟩
set_option maxRecDepth 100000 in
set_option maxHeartbeats 2000000 in
theorem idx_sign_ix (l M:List Tok) (v:Value) (w:World) (hr:Row w v l.length (tokc l)) (hs:TokOk l) (hl:l.length≤1000000) (hB:(innerP l).isSome=true) (hM:(innerP l).getD []=M) (hx1:((wordAt M 0).toList == [73,88])=true) (h3:3≤M.length) (t:Tok) (ht:M[1]? = some t) (hpm:(signIs t [43] || signIs t [45])=false) :
 Calls Tryz.prog 104 #[rdV v] w (RdRes (ar0,0) false w):=by
 have hin:=fun X (hb:Below w.heap.size w X)=>inner_any l v X (hr.below hb) hl
 have hMs:TokOk M:=by rw [←hM]; exact inner_ok hs
 have hMl:M.length≤1000000:=by rw [←hM]; exact Nat.le_trans (inner_len l) hl
 rw [hB,hM] at hin
 have hw:∀ X v2,Row X v2 M.length (tokc M)→Calls Tryz.prog 179 #[rdV v2,.int .i64 0] X fun e w'=>e=.returned (.string (wordAt M 0))∧Below X.heap.size X w':=fun X v2 h=>argWord_any M 0 v2 X h (by omega) (fun t ht=>by have:=(hMs t ht).1; unfold maxLen; omega)
 obtain ⟨U,hU⟩:∃ U,wordAt M 0=U:=⟨_,rfl⟩
 rw [hU] at hw
 rw [hU] at hx1
 have HT:=Hh ht; have HPM:=Hh hpm
 clear ht hpm
 have HIN:=Hh hin; have HW:=Hh hw
 clear hin hw hMs hMl hB hM hU
 obtain ⟨a,c,rfl,_,_⟩:=hr
 unfold RdRes
 show Calls Tryz.prog 104 #[rdV (.slice a l.length c)] w fun e w'=>∃ p,e=.returned (.tuple #[.agg #[.int .i64 0,.string ⟨#[]⟩,.pointer p],.int .i64 0,.bool false])∧OptAt 225 w' none (.pointer p)∧Below w.heap.size w w'
 go_enter Tryz.func104,Tryz.ntmps104
 go_wp2_with fail
 have hbW:Below w.heap.size w ((w.alloc (.cells #[.slice a l.length c] 185)).alloc (.cells #[.int .i64 0,.string ⟨#[]⟩,.pointer none] 84)):=bl
 (with_reducible refine (HIN.out _ hbW).mono ?_)
 rintro e w2 ⟨ai,ni,ci,rfl,hri,hb2⟩
 have h12:=blk_below (arBox w (rdC a l.length c)) hb2 (by simp)
 have hl2:=blk_lt h12
 have hn:ni=M.length:=by obtain ⟨_,_,h,_⟩:=hri; cases h; rfl
 subst hn
 have H12:=Hh h12
 have HRI:=Hh hri
 have HB2:=Hh (hbW.trans (hb2.mono hbW.size))
 clear hbW hb2 h12 hri
 go_wp2_with fail
 have hal:Below w2.heap.size w2 (w2.alloc (.cells #[.slice ai M.length ci] 185)):=(Below.refl _ _).alloc (Nat.le_refl _) _
 have hib:=blk_new w2 (.cells #[.slice ai M.length ci] 185)
 (with_reducible refine (HW.out _ _ (HRI.out.below hal)).mono ?_)
 rintro e w3 ⟨rfl,hb3⟩
 have hb23:=hal.trans (hb3.mono hal.size)
 have hib3:=blk_below hib hb3 (by rw [World.size_alloc]; omega)
 have h13:=blk_below H12.out hb23 hl2
 have hli:=blk_lt hib3
 have hl3:=blk_lt h13
 have q0:=blk_cell hib3 0
 simp only [List.getElem?_toArray,List.getElem?_cons_zero] at q0
 obtain ⟨k0,k1,k2,f0,f1,f2⟩:=cells3 h13
 have H13:=Hh h13; have HIB:=Hh hib3
 have HR3:=Hh (HRI.out.below hb23)
 have HB3:=Hh (HB2.out.trans (hb23.mono HB2.out.size))
 clear hal hb23 hb3 h13 hib hib3
 obtain ⟨g,o,cc,hv,hcc,hg,t0,t1,t2,t3,_⟩:=tok_one HR3.out HT.out
 cases hv
 have h3i:¬ (M.length:Int)<3:=by omega
 have h1i:(1:Int)<(M.length:Int):=by omega
 have hcci:(M.length:Int)≤(ci:Int):=by omega
 have his:=fun b X h1 h2=>is2_any t.kind t.text t.n t.off 43 45 b X h1 h2
 have hpm2:(signIs ⟨t.kind,t.text,t.n,t.off⟩ [43] || signIs ⟨t.kind,t.text,t.n,t.off⟩ [45])=false:=HPM.out
 rw [hpm2] at his
 have HIS:=Hh his
 clear his hpm2
 go_wp2_with fail
 (with_reducible refine (HIS.out _ _ ?_ ?_).mono ?_)
 · simp [go_sem]
 · simp [go_sem]
 rintro e w4 ⟨rfl,hb4⟩
 have hb34:Below w3.heap.size w3 w4:=below_of_alloc hb4
 have h14:=blk_below H13.out hb34 hl3
 have hib4:=blk_below HIB.out hb34 hli
 have hr4:=HR3.out.below hb34
 have HB4:=Hh (HB3.out.trans (hb34.mono HB3.out.size))
 clear q0 k0 k1 k2 f0 f1 f2 hb4 hb34 t0 t1 t2 t3
 have q0:=blk_cell hib4 0
 simp only [List.getElem?_toArray,List.getElem?_cons_zero] at q0
 obtain ⟨k0,k1,k2,f0,f1,f2⟩:=cells3 h14
 have hl4:=blk_lt h14
 have hli4:=blk_lt hib4
 have H14:=Hh h14
 have HR4:=Hh hr4
 clear h14 hib4 hr4
 go_wp2_with fail
 obtain ⟨g1,g2,g3⟩:=ar_fin (q:=none) (k:=0) (s:=⟨#[]⟩) H14.out (show OptAt 225 w4 none (.pointer none) from rfl) HB4.out (Nat.le_succ _) _ rfl
 obtain ⟨n0,n1,n2,_⟩:=cells3 g1
 refine bodyPost_ret (v:=.tuple #[.agg #[.int .i64 0,.string ⟨#[]⟩,.pointer none],.int .i64 0,.bool false]) (by simp [results,Tryz.results104,go_sem,n0,n1,n2]) rfl ⟨none,rfl,rfl,g3⟩
set_option maxRecDepth 100000 in
set_option maxHeartbeats 2000000 in
theorem idx_yes_ix (l M:List Tok) (v:Value) (w:World) (hr:Row w v l.length (tokc l)) (hs:TokOk l) (hl:l.length≤1000000) (hB:(innerP l).isSome=true) (hM:(innerP l).getD []=M) (hx1:((wordAt M 0).toList == [73,88])=true) (h3:3≤M.length) (t:Tok) (ht:M[1]? = some t) (hpm:(signIs t [43] || signIs t [45])=true) :
 Calls Tryz.prog 104 #[rdV v] w (RdRes (exprA 3 (wordAt M 0) (M.drop 1)) true w):=by
 have hin:=fun X (hb:Below w.heap.size w X)=>inner_any l v X (hr.below hb) hl
 have hMs:TokOk M:=by rw [←hM]; exact inner_ok hs
 have hMl:M.length≤1000000:=by rw [←hM]; exact Nat.le_trans (inner_len l) hl
 rw [hB,hM] at hin
 have hw:∀ X v2,Row X v2 M.length (tokc M)→Calls Tryz.prog 179 #[rdV v2,.int .i64 0] X fun e w'=>e=.returned (.string (wordAt M 0))∧Below X.heap.size X w':=fun X v2 h=>argWord_any M 0 v2 X h (by omega) (fun t ht=>by have:=(hMs t ht).1; unfold maxLen; omega)
 obtain ⟨U,hU⟩:∃ U,wordAt M 0=U:=⟨_,rfl⟩
 rw [hU] at hw
 rw [hU] at hx1
 rw [hU]
 have hxp:=fun X v2 h=>expression_any (M.drop 1) v2 3 U X h (fun t ht=>hMs t (List.mem_of_mem_drop ht)) (by rw [List.length_drop]; omega)
 obtain ⟨x,hxe⟩:∃ x,exprA 3 U (M.drop 1)=x:=⟨_,rfl⟩
 rw [hxe] at hxp ⊢
 unfold ArRes at hxp
 obtain ⟨⟨kd,tx,ex⟩,cd⟩:=x
 dsimp only at hxp ⊢
 have HX:=Hh hxp; clear hxp hxe
 have HT:=Hh ht; have HPM:=Hh hpm
 clear ht hpm
 have HIN:=Hh hin; have HW:=Hh hw
 clear hin hw hMs hMl hB hM hU
 obtain ⟨a,c,rfl,_,_⟩:=hr
 unfold RdRes
 dsimp only
 go_enter Tryz.func104,Tryz.ntmps104
 go_wp2_with fail
 have hbW:Below w.heap.size w ((w.alloc (.cells #[.slice a l.length c] 185)).alloc (.cells #[.int .i64 0,.string ⟨#[]⟩,.pointer none] 84)):=bl
 (with_reducible refine (HIN.out _ hbW).mono ?_)
 rintro e w2 ⟨ai,ni,ci,rfl,hri,hb2⟩
 have h12:=blk_below (arBox w (rdC a l.length c)) hb2 (by simp)
 have hl2:=blk_lt h12
 have hn:ni=M.length:=by obtain ⟨_,_,h,_⟩:=hri; cases h; rfl
 subst hn
 have H12:=Hh h12
 have HRI:=Hh hri
 have HB2:=Hh (hbW.trans (hb2.mono hbW.size))
 clear hbW hb2 h12 hri
 go_wp2_with fail
 have hal:Below w2.heap.size w2 (w2.alloc (.cells #[.slice ai M.length ci] 185)):=(Below.refl _ _).alloc (Nat.le_refl _) _
 have hib:=blk_new w2 (.cells #[.slice ai M.length ci] 185)
 (with_reducible refine (HW.out _ _ (HRI.out.below hal)).mono ?_)
 rintro e w3 ⟨rfl,hb3⟩
 have hb23:=hal.trans (hb3.mono hal.size)
 have hib3:=blk_below hib hb3 (by rw [World.size_alloc]; omega)
 have h13:=blk_below H12.out hb23 hl2
 have hli:=blk_lt hib3
 have hl3:=blk_lt h13
 have q0:=blk_cell hib3 0
 simp only [List.getElem?_toArray,List.getElem?_cons_zero] at q0
 obtain ⟨k0,k1,k2,f0,f1,f2⟩:=cells3 h13
 have H13:=Hh h13; have HIB:=Hh hib3
 have HR3:=Hh (HRI.out.below hb23)
 have HB3:=Hh (HB2.out.trans (hb23.mono HB2.out.size))
 clear hal hb23 hb3 h13 hib hib3
 obtain ⟨g,o,cc,hv,hcc,hg,t0,t1,t2,t3,_⟩:=tok_one HR3.out HT.out
 cases hv
 have h3i:¬ (M.length:Int)<3:=by omega
 have h1i:(1:Int)<(M.length:Int):=by omega
 have hcci:(M.length:Int)≤(ci:Int):=by omega
 have his:=fun b X h1 h2=>is2_any t.kind t.text t.n t.off 43 45 b X h1 h2
 have hpm2:(signIs ⟨t.kind,t.text,t.n,t.off⟩ [43] || signIs ⟨t.kind,t.text,t.n,t.off⟩ [45])=true:=HPM.out
 rw [hpm2] at his
 have HIS:=Hh his
 clear his hpm2
 go_wp2_with fail
 (with_reducible refine (HIS.out _ _ ?_ ?_).mono ?_)
 · simp [go_sem]
 · simp [go_sem]
 rintro e w4 ⟨rfl,hb4⟩
 have hb34:Below w3.heap.size w3 w4:=below_of_alloc hb4
 have h14:=blk_below H13.out hb34 hl3
 have hib4:=blk_below HIB.out hb34 hli
 have hr4:=HR3.out.below hb34
 have HB4:=Hh (HB3.out.trans (hb34.mono HB3.out.size))
 clear q0 k0 k1 k2 f0 f1 f2 hb4 hb34 t0 t1 t2 t3
 have q0:=blk_cell hib4 0
 simp only [List.getElem?_toArray,List.getElem?_cons_zero] at q0
 obtain ⟨k0,k1,k2,f0,f1,f2⟩:=cells3 h14
 have hl4:=blk_lt h14
 have hli4:=blk_lt hib4
 have H14:=Hh h14
 have HR4:=Hh hr4
 clear h14 hib4 hr4
 go_wp2_with fail
 have hdr:Row w4 (.slice (some ⟨g,o+4,none⟩) (M.length - 1) (ci - 1)) (M.drop 1).length (tokc (M.drop 1)):=by
  obtain ⟨_,_,_,hv,_,_,_,_,_,_,hs⟩:=tok_one HR4.out HT.out
  cases hv
  exact hs
 (with_reducible refine (HX.out _ _ hdr).mono ?_)
 rintro e w5 ⟨p,rfl,ho,hb5⟩
 have h15:=blk_below H14.out hb5 hl4
 clear q0 k0 k1 k2 f0 f1 f2
 obtain ⟨k0,k1,k2,f0,f1,f2⟩:=cells3 h15
 have hl5:=blk_lt h15
 have H15:=Hh h15
 have HO:=Hh ho
 have HB5:=Hh (HB4.out.trans (hb5.mono HB4.out.size))
 clear hb5 h15 ho hdr
 go_wp2_with fail
 obtain ⟨g1,g2,g3⟩:=ar_fin (q:=p) (k:=kd) (s:=tx) H15.out HO.out HB5.out (Nat.le_succ _) _ rfl
 have g4:=blk_alloc (o':=.cells #[.int .i64 kd,.string tx,.pointer p] 84) g1
 have g5:=g2.below ((Below.refl _ _).alloc (Nat.le_refl _) (.cells #[.int .i64 kd,.string tx,.pointer p] 84))
 obtain ⟨n0,n1,n2,_⟩:=cells3 g4
 refine bodyPost_ret (v:=.tuple #[.agg #[.int .i64 kd,.string tx,.pointer p],.int .i64 cd,.bool true]) (by simp [results,Tryz.results104,go_sem,n0,n1,n2]) rfl ⟨p,rfl,g5,g3.alloc g3.size _⟩
set_option maxRecDepth 100000 in
set_option maxHeartbeats 2000000 in
theorem idx_short_iy (l M:List Tok) (v:Value) (w:World) (hr:Row w v l.length (tokc l)) (hs:TokOk l) (hl:l.length≤1000000) (hB:(innerP l).isSome=true) (hM:(innerP l).getD []=M) (hx1:((wordAt M 0).toList == [73,88])=false) (hx2:((wordAt M 0).toList == [73,89])=true) (h3:M.length<3) :
 Calls Tryz.prog 104 #[rdV v] w (RdRes (ar0,0) false w):=by
 have hin:=fun X (hb:Below w.heap.size w X)=>inner_any l v X (hr.below hb) hl
 have hMs:TokOk M:=by rw [←hM]; exact inner_ok hs
 have hMl:M.length≤1000000:=by rw [←hM]; exact Nat.le_trans (inner_len l) hl
 rw [hB,hM] at hin
 have hw:∀ X v2,Row X v2 M.length (tokc M)→Calls Tryz.prog 179 #[rdV v2,.int .i64 0] X fun e w'=>e=.returned (.string (wordAt M 0))∧Below X.heap.size X w':=fun X v2 h=>argWord_any M 0 v2 X h (by omega) (fun t ht=>by have:=(hMs t ht).1; unfold maxLen; omega)
 obtain ⟨U,hU⟩:∃ U,wordAt M 0=U:=⟨_,rfl⟩
 rw [hU] at hw
 rw [hU] at hx1 hx2
 have HIN:=Hh hin; have HW:=Hh hw
 clear hin hw hMs hMl hB hM hU
 obtain ⟨a,c,rfl,_,_⟩:=hr
 unfold RdRes
 show Calls Tryz.prog 104 #[rdV (.slice a l.length c)] w fun e w'=>∃ p,e=.returned (.tuple #[.agg #[.int .i64 0,.string ⟨#[]⟩,.pointer p],.int .i64 0,.bool false])∧OptAt 225 w' none (.pointer p)∧Below w.heap.size w w'
 go_enter Tryz.func104,Tryz.ntmps104
 go_wp2_with fail
 have hbW:Below w.heap.size w ((w.alloc (.cells #[.slice a l.length c] 185)).alloc (.cells #[.int .i64 0,.string ⟨#[]⟩,.pointer none] 84)):=bl
 (with_reducible refine (HIN.out _ hbW).mono ?_)
 rintro e w2 ⟨ai,ni,ci,rfl,hri,hb2⟩
 have h12:=blk_below (arBox w (rdC a l.length c)) hb2 (by simp)
 have hl2:=blk_lt h12
 have hn:ni=M.length:=by obtain ⟨_,_,h,_⟩:=hri; cases h; rfl
 subst hn
 have H12:=Hh h12
 have HRI:=Hh hri
 have HB2:=Hh (hbW.trans (hb2.mono hbW.size))
 clear hbW hb2 h12 hri
 go_wp2_with fail
 have hal:Below w2.heap.size w2 (w2.alloc (.cells #[.slice ai M.length ci] 185)):=(Below.refl _ _).alloc (Nat.le_refl _) _
 have hib:=blk_new w2 (.cells #[.slice ai M.length ci] 185)
 (with_reducible refine (HW.out _ _ (HRI.out.below hal)).mono ?_)
 rintro e w3 ⟨rfl,hb3⟩
 have hb23:=hal.trans (hb3.mono hal.size)
 have hib3:=blk_below hib hb3 (by rw [World.size_alloc]; omega)
 have h13:=blk_below H12.out hb23 hl2
 have hli:=blk_lt hib3
 have hl3:=blk_lt h13
 have q0:=blk_cell hib3 0
 simp only [List.getElem?_toArray,List.getElem?_cons_zero] at q0
 obtain ⟨k0,k1,k2,f0,f1,f2⟩:=cells3 h13
 have H13:=Hh h13; have HIB:=Hh hib3
 have HR3:=Hh (HRI.out.below hb23)
 have HB3:=Hh (HB2.out.trans (hb23.mono HB2.out.size))
 clear hal hb23 hb3 h13 hib hib3
 have h3i:(M.length:Int)<3:=by omega
 go_wp2_with fail
 obtain ⟨g1,g2,g3⟩:=ar_fin (q:=none) (k:=0) (s:=⟨#[]⟩) H13.out (show OptAt 225 w3 none (.pointer none) from rfl) HB3.out (Nat.le_succ _) _ rfl
 obtain ⟨n0,n1,n2,_⟩:=cells3 g1
 refine bodyPost_ret (v:=.tuple #[.agg #[.int .i64 0,.string ⟨#[]⟩,.pointer none],.int .i64 0,.bool false]) (by simp [results,Tryz.results104,go_sem,n0,n1,n2]) rfl ⟨none,rfl,rfl,g3⟩
set_option maxRecDepth 100000 in
set_option maxHeartbeats 2000000 in
theorem idx_sign_iy (l M:List Tok) (v:Value) (w:World) (hr:Row w v l.length (tokc l)) (hs:TokOk l) (hl:l.length≤1000000) (hB:(innerP l).isSome=true) (hM:(innerP l).getD []=M) (hx1:((wordAt M 0).toList == [73,88])=false) (hx2:((wordAt M 0).toList == [73,89])=true) (h3:3≤M.length) (t:Tok) (ht:M[1]? = some t) (hpm:(signIs t [43] || signIs t [45])=false) :
 Calls Tryz.prog 104 #[rdV v] w (RdRes (ar0,0) false w):=by
 have hin:=fun X (hb:Below w.heap.size w X)=>inner_any l v X (hr.below hb) hl
 have hMs:TokOk M:=by rw [←hM]; exact inner_ok hs
 have hMl:M.length≤1000000:=by rw [←hM]; exact Nat.le_trans (inner_len l) hl
 rw [hB,hM] at hin
 have hw:∀ X v2,Row X v2 M.length (tokc M)→Calls Tryz.prog 179 #[rdV v2,.int .i64 0] X fun e w'=>e=.returned (.string (wordAt M 0))∧Below X.heap.size X w':=fun X v2 h=>argWord_any M 0 v2 X h (by omega) (fun t ht=>by have:=(hMs t ht).1; unfold maxLen; omega)
 obtain ⟨U,hU⟩:∃ U,wordAt M 0=U:=⟨_,rfl⟩
 rw [hU] at hw
 rw [hU] at hx1 hx2
 have HT:=Hh ht; have HPM:=Hh hpm
 clear ht hpm
 have HIN:=Hh hin; have HW:=Hh hw
 clear hin hw hMs hMl hB hM hU
 obtain ⟨a,c,rfl,_,_⟩:=hr
 unfold RdRes
 show Calls Tryz.prog 104 #[rdV (.slice a l.length c)] w fun e w'=>∃ p,e=.returned (.tuple #[.agg #[.int .i64 0,.string ⟨#[]⟩,.pointer p],.int .i64 0,.bool false])∧OptAt 225 w' none (.pointer p)∧Below w.heap.size w w'
 go_enter Tryz.func104,Tryz.ntmps104
 go_wp2_with fail
 have hbW:Below w.heap.size w ((w.alloc (.cells #[.slice a l.length c] 185)).alloc (.cells #[.int .i64 0,.string ⟨#[]⟩,.pointer none] 84)):=bl
 (with_reducible refine (HIN.out _ hbW).mono ?_)
 rintro e w2 ⟨ai,ni,ci,rfl,hri,hb2⟩
 have h12:=blk_below (arBox w (rdC a l.length c)) hb2 (by simp)
 have hl2:=blk_lt h12
 have hn:ni=M.length:=by obtain ⟨_,_,h,_⟩:=hri; cases h; rfl
 subst hn
 have H12:=Hh h12
 have HRI:=Hh hri
 have HB2:=Hh (hbW.trans (hb2.mono hbW.size))
 clear hbW hb2 h12 hri
 go_wp2_with fail
 have hal:Below w2.heap.size w2 (w2.alloc (.cells #[.slice ai M.length ci] 185)):=(Below.refl _ _).alloc (Nat.le_refl _) _
 have hib:=blk_new w2 (.cells #[.slice ai M.length ci] 185)
 (with_reducible refine (HW.out _ _ (HRI.out.below hal)).mono ?_)
 rintro e w3 ⟨rfl,hb3⟩
 have hb23:=hal.trans (hb3.mono hal.size)
 have hib3:=blk_below hib hb3 (by rw [World.size_alloc]; omega)
 have h13:=blk_below H12.out hb23 hl2
 have hli:=blk_lt hib3
 have hl3:=blk_lt h13
 have q0:=blk_cell hib3 0
 simp only [List.getElem?_toArray,List.getElem?_cons_zero] at q0
 obtain ⟨k0,k1,k2,f0,f1,f2⟩:=cells3 h13
 have H13:=Hh h13; have HIB:=Hh hib3
 have HR3:=Hh (HRI.out.below hb23)
 have HB3:=Hh (HB2.out.trans (hb23.mono HB2.out.size))
 clear hal hb23 hb3 h13 hib hib3
 obtain ⟨g,o,cc,hv,hcc,hg,t0,t1,t2,t3,_⟩:=tok_one HR3.out HT.out
 cases hv
 have h3i:¬ (M.length:Int)<3:=by omega
 have h1i:(1:Int)<(M.length:Int):=by omega
 have hcci:(M.length:Int)≤(ci:Int):=by omega
 have his:=fun b X h1 h2=>is2_any t.kind t.text t.n t.off 43 45 b X h1 h2
 have hpm2:(signIs ⟨t.kind,t.text,t.n,t.off⟩ [43] || signIs ⟨t.kind,t.text,t.n,t.off⟩ [45])=false:=HPM.out
 rw [hpm2] at his
 have HIS:=Hh his
 clear his hpm2
 go_wp2_with fail
 (with_reducible refine (HIS.out _ _ ?_ ?_).mono ?_)
 · simp [go_sem]
 · simp [go_sem]
 rintro e w4 ⟨rfl,hb4⟩
 have hb34:Below w3.heap.size w3 w4:=below_of_alloc hb4
 have h14:=blk_below H13.out hb34 hl3
 have hib4:=blk_below HIB.out hb34 hli
 have hr4:=HR3.out.below hb34
 have HB4:=Hh (HB3.out.trans (hb34.mono HB3.out.size))
 clear q0 k0 k1 k2 f0 f1 f2 hb4 hb34 t0 t1 t2 t3
 have q0:=blk_cell hib4 0
 simp only [List.getElem?_toArray,List.getElem?_cons_zero] at q0
 obtain ⟨k0,k1,k2,f0,f1,f2⟩:=cells3 h14
 have hl4:=blk_lt h14
 have hli4:=blk_lt hib4
 have H14:=Hh h14
 have HR4:=Hh hr4
 clear h14 hib4 hr4
 go_wp2_with fail
 obtain ⟨g1,g2,g3⟩:=ar_fin (q:=none) (k:=0) (s:=⟨#[]⟩) H14.out (show OptAt 225 w4 none (.pointer none) from rfl) HB4.out (Nat.le_succ _) _ rfl
 obtain ⟨n0,n1,n2,_⟩:=cells3 g1
 refine bodyPost_ret (v:=.tuple #[.agg #[.int .i64 0,.string ⟨#[]⟩,.pointer none],.int .i64 0,.bool false]) (by simp [results,Tryz.results104,go_sem,n0,n1,n2]) rfl ⟨none,rfl,rfl,g3⟩
set_option maxRecDepth 100000 in
set_option maxHeartbeats 2000000 in
theorem idx_yes_iy (l M:List Tok) (v:Value) (w:World) (hr:Row w v l.length (tokc l)) (hs:TokOk l) (hl:l.length≤1000000) (hB:(innerP l).isSome=true) (hM:(innerP l).getD []=M) (hx1:((wordAt M 0).toList == [73,88])=false) (hx2:((wordAt M 0).toList == [73,89])=true) (h3:3≤M.length) (t:Tok) (ht:M[1]? = some t) (hpm:(signIs t [43] || signIs t [45])=true) :
 Calls Tryz.prog 104 #[rdV v] w (RdRes (exprA 3 (wordAt M 0) (M.drop 1)) true w):=by
 have hin:=fun X (hb:Below w.heap.size w X)=>inner_any l v X (hr.below hb) hl
 have hMs:TokOk M:=by rw [←hM]; exact inner_ok hs
 have hMl:M.length≤1000000:=by rw [←hM]; exact Nat.le_trans (inner_len l) hl
 rw [hB,hM] at hin
 have hw:∀ X v2,Row X v2 M.length (tokc M)→Calls Tryz.prog 179 #[rdV v2,.int .i64 0] X fun e w'=>e=.returned (.string (wordAt M 0))∧Below X.heap.size X w':=fun X v2 h=>argWord_any M 0 v2 X h (by omega) (fun t ht=>by have:=(hMs t ht).1; unfold maxLen; omega)
 obtain ⟨U,hU⟩:∃ U,wordAt M 0=U:=⟨_,rfl⟩
 rw [hU] at hw
 rw [hU] at hx1 hx2
 rw [hU]
 have hxp:=fun X v2 h=>expression_any (M.drop 1) v2 3 U X h (fun t ht=>hMs t (List.mem_of_mem_drop ht)) (by rw [List.length_drop]; omega)
 obtain ⟨x,hxe⟩:∃ x,exprA 3 U (M.drop 1)=x:=⟨_,rfl⟩
 rw [hxe] at hxp ⊢
 unfold ArRes at hxp
 obtain ⟨⟨kd,tx,ex⟩,cd⟩:=x
 dsimp only at hxp ⊢
 have HX:=Hh hxp; clear hxp hxe
 have HT:=Hh ht; have HPM:=Hh hpm
 clear ht hpm
 have HIN:=Hh hin; have HW:=Hh hw
 clear hin hw hMs hMl hB hM hU
 obtain ⟨a,c,rfl,_,_⟩:=hr
 unfold RdRes
 dsimp only
 go_enter Tryz.func104,Tryz.ntmps104
 go_wp2_with fail
 have hbW:Below w.heap.size w ((w.alloc (.cells #[.slice a l.length c] 185)).alloc (.cells #[.int .i64 0,.string ⟨#[]⟩,.pointer none] 84)):=bl
 (with_reducible refine (HIN.out _ hbW).mono ?_)
 rintro e w2 ⟨ai,ni,ci,rfl,hri,hb2⟩
 have h12:=blk_below (arBox w (rdC a l.length c)) hb2 (by simp)
 have hl2:=blk_lt h12
 have hn:ni=M.length:=by obtain ⟨_,_,h,_⟩:=hri; cases h; rfl
 subst hn
 have H12:=Hh h12
 have HRI:=Hh hri
 have HB2:=Hh (hbW.trans (hb2.mono hbW.size))
 clear hbW hb2 h12 hri
 go_wp2_with fail
 have hal:Below w2.heap.size w2 (w2.alloc (.cells #[.slice ai M.length ci] 185)):=(Below.refl _ _).alloc (Nat.le_refl _) _
 have hib:=blk_new w2 (.cells #[.slice ai M.length ci] 185)
 (with_reducible refine (HW.out _ _ (HRI.out.below hal)).mono ?_)
 rintro e w3 ⟨rfl,hb3⟩
 have hb23:=hal.trans (hb3.mono hal.size)
 have hib3:=blk_below hib hb3 (by rw [World.size_alloc]; omega)
 have h13:=blk_below H12.out hb23 hl2
 have hli:=blk_lt hib3
 have hl3:=blk_lt h13
 have q0:=blk_cell hib3 0
 simp only [List.getElem?_toArray,List.getElem?_cons_zero] at q0
 obtain ⟨k0,k1,k2,f0,f1,f2⟩:=cells3 h13
 have H13:=Hh h13; have HIB:=Hh hib3
 have HR3:=Hh (HRI.out.below hb23)
 have HB3:=Hh (HB2.out.trans (hb23.mono HB2.out.size))
 clear hal hb23 hb3 h13 hib hib3
 obtain ⟨g,o,cc,hv,hcc,hg,t0,t1,t2,t3,_⟩:=tok_one HR3.out HT.out
 cases hv
 have h3i:¬ (M.length:Int)<3:=by omega
 have h1i:(1:Int)<(M.length:Int):=by omega
 have hcci:(M.length:Int)≤(ci:Int):=by omega
 have his:=fun b X h1 h2=>is2_any t.kind t.text t.n t.off 43 45 b X h1 h2
 have hpm2:(signIs ⟨t.kind,t.text,t.n,t.off⟩ [43] || signIs ⟨t.kind,t.text,t.n,t.off⟩ [45])=true:=HPM.out
 rw [hpm2] at his
 have HIS:=Hh his
 clear his hpm2
 go_wp2_with fail
 (with_reducible refine (HIS.out _ _ ?_ ?_).mono ?_)
 · simp [go_sem]
 · simp [go_sem]
 rintro e w4 ⟨rfl,hb4⟩
 have hb34:Below w3.heap.size w3 w4:=below_of_alloc hb4
 have h14:=blk_below H13.out hb34 hl3
 have hib4:=blk_below HIB.out hb34 hli
 have hr4:=HR3.out.below hb34
 have HB4:=Hh (HB3.out.trans (hb34.mono HB3.out.size))
 clear q0 k0 k1 k2 f0 f1 f2 hb4 hb34 t0 t1 t2 t3
 have q0:=blk_cell hib4 0
 simp only [List.getElem?_toArray,List.getElem?_cons_zero] at q0
 obtain ⟨k0,k1,k2,f0,f1,f2⟩:=cells3 h14
 have hl4:=blk_lt h14
 have hli4:=blk_lt hib4
 have H14:=Hh h14
 have HR4:=Hh hr4
 clear h14 hib4 hr4
 go_wp2_with fail
 have hdr:Row w4 (.slice (some ⟨g,o+4,none⟩) (M.length - 1) (ci - 1)) (M.drop 1).length (tokc (M.drop 1)):=by
  obtain ⟨_,_,_,hv,_,_,_,_,_,_,hs⟩:=tok_one HR4.out HT.out
  cases hv
  exact hs
 (with_reducible refine (HX.out _ _ hdr).mono ?_)
 rintro e w5 ⟨p,rfl,ho,hb5⟩
 have h15:=blk_below H14.out hb5 hl4
 clear q0 k0 k1 k2 f0 f1 f2
 obtain ⟨k0,k1,k2,f0,f1,f2⟩:=cells3 h15
 have hl5:=blk_lt h15
 have H15:=Hh h15
 have HO:=Hh ho
 have HB5:=Hh (HB4.out.trans (hb5.mono HB4.out.size))
 clear hb5 h15 ho hdr
 go_wp2_with fail
 obtain ⟨g1,g2,g3⟩:=ar_fin (q:=p) (k:=kd) (s:=tx) H15.out HO.out HB5.out (Nat.le_succ _) _ rfl
 have g4:=blk_alloc (o':=.cells #[.int .i64 kd,.string tx,.pointer p] 84) g1
 have g5:=g2.below ((Below.refl _ _).alloc (Nat.le_refl _) (.cells #[.int .i64 kd,.string tx,.pointer p] 84))
 obtain ⟨n0,n1,n2,_⟩:=cells3 g4
 refine bodyPost_ret (v:=.tuple #[.agg #[.int .i64 kd,.string tx,.pointer p],.int .i64 cd,.bool true]) (by simp [results,Tryz.results104,go_sem,n0,n1,n2]) rfl ⟨p,rfl,g5,g3.alloc g3.size _⟩
def idxQ (M:List Tok):Bool:=ixW (wordAt M 0) && decide (3≤M.length) && isPM M
theorem index_any7 (l M:List Tok) (B:Bool) (v:Value) (w:World) (hr:Row w v l.length (tokc l)) (hs:TokOk l) (hl:l.length≤1000000) (hB:(innerP l).isSome=B) (hM:(innerP l).getD []=M) :
 Calls Tryz.prog 104 #[rdV v] w (RdRes (if (B && idxQ M)=true then exprA 3 (wordAt M 0) (M.drop 1) else (ar0,0)) (B && idxQ M) w):=by
 have no:∀ z,z=false→Calls Tryz.prog 104 #[rdV v] w (RdRes (ar0,0) false w)→Calls Tryz.prog 104 #[rdV v] w (RdRes (if z=true then exprA 3 (wordAt M 0) (M.drop 1) else (ar0,0)) z w):=fun z hz h=>by subst hz; rw [if_neg (by decide)]; exact h
 cases B with
 | false=>exact no _ rfl (idx_none l M v w hr hs hl hB hM)
 | true =>
   rw [Bool.true_and]
   unfold idxQ
   cases hx1:((wordAt M 0).toList == [73,88]) with
   | true =>
     have hx:ixW (wordAt M 0)=true:=by unfold ixW; rw [hx1]; rfl
     rw [hx,Bool.true_and]
     by_cases h3:3≤M.length
     · rw [decide_eq_true h3,Bool.true_and]
       obtain ⟨t,ht⟩:∃ t,M[1]? = some t:=⟨_,List.getElem?_eq_getElem (by omega)⟩
       have hp:isPM M=(signIs t [43] || signIs t [45]):=by unfold isPM; rw [ht]
       rw [hp]
       cases hpm:(signIs t [43] || signIs t [45]) with
       | true=>rw [if_pos rfl]; exact idx_yes_ix l M v w hr hs hl hB hM hx1 h3 t ht hpm
       | false=>exact no _ rfl (idx_sign_ix l M v w hr hs hl hB hM hx1 h3 t ht hpm)
     · rw [decide_eq_false h3,Bool.false_and]
       exact no _ rfl (idx_short_ix l M v w hr hs hl hB hM hx1 (by omega))
   | false =>
     cases hx2:((wordAt M 0).toList == [73,89]) with
     | true =>
       have hx:ixW (wordAt M 0)=true:=by unfold ixW; rw [hx1,hx2]; rfl
       rw [hx,Bool.true_and]
       by_cases h3:3≤M.length
       · rw [decide_eq_true h3,Bool.true_and]
         obtain ⟨t,ht⟩:∃ t,M[1]? = some t:=⟨_,List.getElem?_eq_getElem (by omega)⟩
         have hp:isPM M=(signIs t [43] || signIs t [45]):=by unfold isPM; rw [ht]
         rw [hp]
         cases hpm:(signIs t [43] || signIs t [45]) with
         | true=>rw [if_pos rfl]; exact idx_yes_iy l M v w hr hs hl hB hM hx1 hx2 h3 t ht hpm
         | false=>exact no _ rfl (idx_sign_iy l M v w hr hs hl hB hM hx1 hx2 h3 t ht hpm)
       · rw [decide_eq_false h3,Bool.false_and]
         exact no _ rfl (idx_short_iy l M v w hr hs hl hB hM hx1 hx2 (by omega))
     | false =>
       have hx:ixW (wordAt M 0)=false:=by unfold ixW; rw [hx1,hx2]; rfl
       rw [hx,Bool.false_and,Bool.false_and]
       exact no _ rfl (idx_word l M v w hr hs hl hB hM hx)
theorem indexA5 (a0 a1 a2 a3 a4:Value) (w:World) :
 (Instr.index 187 (.agg #[a0,a1,a2,a3,a4]) (.int .i64 0)).run Tryz.prog w=.ok a0 w∧(Instr.index 187 (.agg #[a0,a1,a2,a3,a4]) (.int .i64 1)).run Tryz.prog w=.ok a1 w ∧
 (Instr.index 187 (.agg #[a0,a1,a2,a3,a4]) (.int .i64 2)).run Tryz.prog w=.ok a2 w∧(Instr.index 187 (.agg #[a0,a1,a2,a3,a4]) (.int .i64 3)).run Tryz.prog w=.ok a3 w ∧
 (Instr.index 187 (.agg #[a0,a1,a2,a3,a4]) (.int .i64 4)).run Tryz.prog w=.ok a4 w:=by
 refine ⟨?_,?_,?_,?_,?_⟩<;>(change _=_; kernel_rfl)
set_option maxRecDepth 100000 in
set_option maxHeartbeats 4000000 in
theorem parseA_raw (v:Value) (a:Option Addr) (n c:Nat) (hv:v=.slice a n c) (w:World) (k0:Int) (s0:ByteArray) (e0:Option Ex) (c0:Int) (b0:Bool) (h0:∀ X,Below w.heap.size w X→Calls Tryz.prog 102 #[rdV v] X (RdRes (⟨k0,s0,e0⟩,c0) b0 X)) (k1:Int) (s1:ByteArray) (e1:Option Ex) (c1:Int) (b1:Bool) (h1:∀ X,Below w.heap.size w X→Calls Tryz.prog 103 #[rdV v] X (RdRes (⟨k1,s1,e1⟩,c1) b1 X)) (k2:Int) (s2:ByteArray) (e2:Option Ex) (c2:Int) (b2:Bool) (h2:∀ X,Below w.heap.size w X→Calls Tryz.prog 104 #[rdV v] X (RdRes (⟨k2,s2,e2⟩,c2) b2 X)) (k3:Int) (s3:ByteArray) (e3:Option Ex) (c3:Int) (b3:Bool) (h3:∀ X,Below w.heap.size w X→Calls Tryz.prog 105 #[rdV v] X (RdRes (⟨k3,s3,e3⟩,c3) b3 X)) (k4:Int) (s4:ByteArray) (e4:Option Ex) (c4:Int) (b4:Bool) (h4:∀ X,Below w.heap.size w X→Calls Tryz.prog 106 #[rdV v] X (RdRes (⟨k4,s4,e4⟩,c4) b4 X)) (hb4:b4=true) (R:Ar × Int) (hR:R=(if b0=true then (⟨k0,s0,e0⟩,c0) else (if b1=true then (⟨k1,s1,e1⟩,c1) else (if b2=true then (⟨k2,s2,e2⟩,c2) else (if b3=true then (⟨k3,s3,e3⟩,c3) else ((⟨k4,s4,e4⟩,c4):Ar × Int)))))) :
 Calls Tryz.prog 46 #[v] w (ArRes R w):=by
 subst hv
 unfold RdRes at h0 h1 h2 h3 h4
 dsimp only at h0 h1 h2 h3 h4
 have H0:=Hh h0; clear h0
 have H1:=Hh h1; clear h1
 have H2:=Hh h2; clear h2
 have H3:=Hh h3; clear h3
 have H4:=Hh h4; clear h4
 subst hb4
 obtain ⟨⟨kd,tx,ex⟩,cd⟩:=R
 have HR:=Hh hR; clear hR
 unfold ArRes
 dsimp only
 go_enter Tryz.func46,Tryz.ntmps46
 go_wp2_with fail
 have hbW:Below w.heap.size w ((w.alloc (.cells #[.int .i64 0,.string ⟨#[]⟩,.pointer none] 84)).alloc (.cells #[.slice a n c] 185)):=bl
 have hres:((w.alloc (.cells #[.int .i64 0,.string ⟨#[]⟩,.pointer none] 84)).alloc (.cells #[.slice a n c] 185)).heap[w.heap.size]? = some arC0:=blk_alloc (blk_new _ _)
 have HBW:=Hh hbW; have HRES:=Hh hres
 clear hbW hres
 go_loopw [23] (fun i wr=>∃ j:Nat,j≤4∧i=.int .i64 j∧Hid (Below w.heap.size w wr)∧Hid (wr.heap[w.heap.size]? = some arC0)∧Hid ((j=0∧((⟨kd,tx,ex⟩,cd):Ar × Int)=(if b0=true then (⟨k0,s0,e0⟩,c0) else (if b1=true then (⟨k1,s1,e1⟩,c1) else (if b2=true then (⟨k2,s2,e2⟩,c2) else (if b3=true then (⟨k3,s3,e3⟩,c3) else ((⟨k4,s4,e4⟩,c4):Ar × Int))))))∨(j=1∧((⟨kd,tx,ex⟩,cd):Ar × Int)=(if b1=true then (⟨k1,s1,e1⟩,c1) else (if b2=true then (⟨k2,s2,e2⟩,c2) else (if b3=true then (⟨k3,s3,e3⟩,c3) else ((⟨k4,s4,e4⟩,c4):Ar × Int)))))∨(j=2∧((⟨kd,tx,ex⟩,cd):Ar × Int)=(if b2=true then (⟨k2,s2,e2⟩,c2) else (if b3=true then (⟨k3,s3,e3⟩,c3) else ((⟨k4,s4,e4⟩,c4):Ar × Int))))∨(j=3∧((⟨kd,tx,ex⟩,cd):Ar × Int)=(if b3=true then (⟨k3,s3,e3⟩,c3) else ((⟨k4,s4,e4⟩,c4):Ar × Int)))∨(j=4∧((⟨kd,tx,ex⟩,cd):Ar × Int)=((⟨k4,s4,e4⟩,c4):Ar × Int)))) (fun i _=>5 - (intOf i).toNat)
 case atStart=>exact ⟨0,by omega,rfl,HBW,HRES,Hh (.inl ⟨rfl,HR.out⟩)⟩
 case round =>
  obtain ⟨j,hj,rfl,HB,HX,HJ⟩:=hrel
  rcases HJ.out with ⟨rfl,hS⟩ | ⟨rfl,hS⟩ | ⟨rfl,hS⟩ | ⟨rfl,hS⟩ | ⟨rfl,hS⟩
  · obtain ⟨hix,_,_,_,_⟩:=indexA5 (.func (.func 102) #[rdV (.slice a n c)] #[]) (.func (.func 103) #[rdV (.slice a n c)] #[]) (.func (.func 104) #[rdV (.slice a n c)] #[]) (.func (.func 105) #[rdV (.slice a n c)] #[]) (.func (.func 106) #[rdV (.slice a n c)] #[]) wr
    cases b0 with
    | true =>
      rw [if_pos rfl] at hS
      have HS:=Hh hS; clear hS
      go_wp2_with fail
      (with_reducible refine (H0.out _ HB.out).mono ?_)
      rintro e w2 ⟨p,rfl,ho,hb2⟩
      have hl:=blk_lt HX.out
      have h12:=blk_below HX.out hb2 hl
      obtain ⟨z0,z1,z2,f0,f1,f2⟩:=cells3 h12
      have hl2:=blk_lt h12
      have H12:=Hh h12; have HO:=Hh ho
      have HB2:=Hh (HB.out.trans (hb2.mono HB.out.size))
      clear hb2 h12 ho hl
      go_wp2_with fail
      obtain ⟨g1,g2,g3⟩:=ar_fin (q:=p) (k:=k0) (s:=s0) H12.out HO.out HB2.out (Nat.le_refl _) _ rfl
      have g4:=blk_alloc (o':=.cells #[.int .i64 k0,.string s0,.pointer p] 84) g1
      have g5:=g2.below ((Below.refl _ _).alloc (Nat.le_refl _) (.cells #[.int .i64 k0,.string s0,.pointer p] 84))
      obtain ⟨n0,n1,n2,_⟩:=cells3 g4
      refine bodyPost_ret (v:=.tuple #[.agg #[.int .i64 k0,.string s0,.pointer p],.int .i64 c0]) (by simp [results,Tryz.results46,go_sem,n0,n1,n2]) rfl ⟨p,?_,?_,g3.alloc g3.size _⟩
      · have q:=HS.out
        cases q
        rfl
      · have q:=HS.out
        cases q
        exact g5
    | false =>
      rw [if_neg (by decide)] at hS
      have HS:=Hh hS; clear hS
      go_wp2_with fail
      (with_reducible refine (H0.out _ HB.out).mono ?_)
      rintro e w2 ⟨p,rfl,ho,hb2⟩
      have hl:=blk_lt HX.out
      have h12:=blk_below HX.out hb2 hl
      obtain ⟨z0,z1,z2,f0,f1,f2⟩:=cells3 h12
      have hl2:=blk_lt h12
      have H12:=Hh h12; have HO:=Hh ho
      have HB2:=Hh (HB.out.trans (hb2.mono HB.out.size))
      clear hb2 h12 ho hl
      go_wp2_with fail
      go_roundw
      case rel=>exact ⟨1,by omega,by go_num,Hh (HB2.out.alloc HB2.out.size _),Hh (blk_alloc H12.out),Hh (.inr (.inl ⟨rfl,HS.out⟩))⟩
      case measure=>simp [intOf]
  · obtain ⟨_,hix,_,_,_⟩:=indexA5 (.func (.func 102) #[rdV (.slice a n c)] #[]) (.func (.func 103) #[rdV (.slice a n c)] #[]) (.func (.func 104) #[rdV (.slice a n c)] #[]) (.func (.func 105) #[rdV (.slice a n c)] #[]) (.func (.func 106) #[rdV (.slice a n c)] #[]) wr
    cases b1 with
    | true =>
      rw [if_pos rfl] at hS
      have HS:=Hh hS; clear hS
      go_wp2_with fail
      (with_reducible refine (H1.out _ HB.out).mono ?_)
      rintro e w2 ⟨p,rfl,ho,hb2⟩
      have hl:=blk_lt HX.out
      have h12:=blk_below HX.out hb2 hl
      obtain ⟨z0,z1,z2,f0,f1,f2⟩:=cells3 h12
      have hl2:=blk_lt h12
      have H12:=Hh h12; have HO:=Hh ho
      have HB2:=Hh (HB.out.trans (hb2.mono HB.out.size))
      clear hb2 h12 ho hl
      go_wp2_with fail
      obtain ⟨g1,g2,g3⟩:=ar_fin (q:=p) (k:=k1) (s:=s1) H12.out HO.out HB2.out (Nat.le_refl _) _ rfl
      have g4:=blk_alloc (o':=.cells #[.int .i64 k1,.string s1,.pointer p] 84) g1
      have g5:=g2.below ((Below.refl _ _).alloc (Nat.le_refl _) (.cells #[.int .i64 k1,.string s1,.pointer p] 84))
      obtain ⟨n0,n1,n2,_⟩:=cells3 g4
      refine bodyPost_ret (v:=.tuple #[.agg #[.int .i64 k1,.string s1,.pointer p],.int .i64 c1]) (by simp [results,Tryz.results46,go_sem,n0,n1,n2]) rfl ⟨p,?_,?_,g3.alloc g3.size _⟩
      · have q:=HS.out
        cases q
        rfl
      · have q:=HS.out
        cases q
        exact g5
    | false =>
      rw [if_neg (by decide)] at hS
      have HS:=Hh hS; clear hS
      go_wp2_with fail
      (with_reducible refine (H1.out _ HB.out).mono ?_)
      rintro e w2 ⟨p,rfl,ho,hb2⟩
      have hl:=blk_lt HX.out
      have h12:=blk_below HX.out hb2 hl
      obtain ⟨z0,z1,z2,f0,f1,f2⟩:=cells3 h12
      have hl2:=blk_lt h12
      have H12:=Hh h12; have HO:=Hh ho
      have HB2:=Hh (HB.out.trans (hb2.mono HB.out.size))
      clear hb2 h12 ho hl
      go_wp2_with fail
      go_roundw
      case rel=>exact ⟨2,by omega,by go_num,Hh (HB2.out.alloc HB2.out.size _),Hh (blk_alloc H12.out),Hh (.inr (.inr (.inl ⟨rfl,HS.out⟩)))⟩
      case measure=>simp [intOf]
  · obtain ⟨_,_,hix,_,_⟩:=indexA5 (.func (.func 102) #[rdV (.slice a n c)] #[]) (.func (.func 103) #[rdV (.slice a n c)] #[]) (.func (.func 104) #[rdV (.slice a n c)] #[]) (.func (.func 105) #[rdV (.slice a n c)] #[]) (.func (.func 106) #[rdV (.slice a n c)] #[]) wr
    cases b2 with
    | true =>
      rw [if_pos rfl] at hS
      have HS:=Hh hS; clear hS
      go_wp2_with fail
      (with_reducible refine (H2.out _ HB.out).mono ?_)
      rintro e w2 ⟨p,rfl,ho,hb2⟩
      have hl:=blk_lt HX.out
      have h12:=blk_below HX.out hb2 hl
      obtain ⟨z0,z1,z2,f0,f1,f2⟩:=cells3 h12
      have hl2:=blk_lt h12
      have H12:=Hh h12; have HO:=Hh ho
      have HB2:=Hh (HB.out.trans (hb2.mono HB.out.size))
      clear hb2 h12 ho hl
      go_wp2_with fail
      obtain ⟨g1,g2,g3⟩:=ar_fin (q:=p) (k:=k2) (s:=s2) H12.out HO.out HB2.out (Nat.le_refl _) _ rfl
      have g4:=blk_alloc (o':=.cells #[.int .i64 k2,.string s2,.pointer p] 84) g1
      have g5:=g2.below ((Below.refl _ _).alloc (Nat.le_refl _) (.cells #[.int .i64 k2,.string s2,.pointer p] 84))
      obtain ⟨n0,n1,n2,_⟩:=cells3 g4
      refine bodyPost_ret (v:=.tuple #[.agg #[.int .i64 k2,.string s2,.pointer p],.int .i64 c2]) (by simp [results,Tryz.results46,go_sem,n0,n1,n2]) rfl ⟨p,?_,?_,g3.alloc g3.size _⟩
      · have q:=HS.out
        cases q
        rfl
      · have q:=HS.out
        cases q
        exact g5
    | false =>
      rw [if_neg (by decide)] at hS
      have HS:=Hh hS; clear hS
      go_wp2_with fail
      (with_reducible refine (H2.out _ HB.out).mono ?_)
      rintro e w2 ⟨p,rfl,ho,hb2⟩
      have hl:=blk_lt HX.out
      have h12:=blk_below HX.out hb2 hl
      obtain ⟨z0,z1,z2,f0,f1,f2⟩:=cells3 h12
      have hl2:=blk_lt h12
      have H12:=Hh h12; have HO:=Hh ho
      have HB2:=Hh (HB.out.trans (hb2.mono HB.out.size))
      clear hb2 h12 ho hl
      go_wp2_with fail
      go_roundw
      case rel=>exact ⟨3,by omega,by go_num,Hh (HB2.out.alloc HB2.out.size _),Hh (blk_alloc H12.out),Hh (.inr (.inr (.inr (.inl ⟨rfl,HS.out⟩))))⟩
      case measure=>simp [intOf]
  · obtain ⟨_,_,_,hix,_⟩:=indexA5 (.func (.func 102) #[rdV (.slice a n c)] #[]) (.func (.func 103) #[rdV (.slice a n c)] #[]) (.func (.func 104) #[rdV (.slice a n c)] #[]) (.func (.func 105) #[rdV (.slice a n c)] #[]) (.func (.func 106) #[rdV (.slice a n c)] #[]) wr
    cases b3 with
    | true =>
      rw [if_pos rfl] at hS
      have HS:=Hh hS; clear hS
      go_wp2_with fail
      (with_reducible refine (H3.out _ HB.out).mono ?_)
      rintro e w2 ⟨p,rfl,ho,hb2⟩
      have hl:=blk_lt HX.out
      have h12:=blk_below HX.out hb2 hl
      obtain ⟨z0,z1,z2,f0,f1,f2⟩:=cells3 h12
      have hl2:=blk_lt h12
      have H12:=Hh h12; have HO:=Hh ho
      have HB2:=Hh (HB.out.trans (hb2.mono HB.out.size))
      clear hb2 h12 ho hl
      go_wp2_with fail
      obtain ⟨g1,g2,g3⟩:=ar_fin (q:=p) (k:=k3) (s:=s3) H12.out HO.out HB2.out (Nat.le_refl _) _ rfl
      have g4:=blk_alloc (o':=.cells #[.int .i64 k3,.string s3,.pointer p] 84) g1
      have g5:=g2.below ((Below.refl _ _).alloc (Nat.le_refl _) (.cells #[.int .i64 k3,.string s3,.pointer p] 84))
      obtain ⟨n0,n1,n2,_⟩:=cells3 g4
      refine bodyPost_ret (v:=.tuple #[.agg #[.int .i64 k3,.string s3,.pointer p],.int .i64 c3]) (by simp [results,Tryz.results46,go_sem,n0,n1,n2]) rfl ⟨p,?_,?_,g3.alloc g3.size _⟩
      · have q:=HS.out
        cases q
        rfl
      · have q:=HS.out
        cases q
        exact g5
    | false =>
      rw [if_neg (by decide)] at hS
      have HS:=Hh hS; clear hS
      go_wp2_with fail
      (with_reducible refine (H3.out _ HB.out).mono ?_)
      rintro e w2 ⟨p,rfl,ho,hb2⟩
      have hl:=blk_lt HX.out
      have h12:=blk_below HX.out hb2 hl
      obtain ⟨z0,z1,z2,f0,f1,f2⟩:=cells3 h12
      have hl2:=blk_lt h12
      have H12:=Hh h12; have HO:=Hh ho
      have HB2:=Hh (HB.out.trans (hb2.mono HB.out.size))
      clear hb2 h12 ho hl
      go_wp2_with fail
      go_roundw
      case rel=>exact ⟨4,by omega,by go_num,Hh (HB2.out.alloc HB2.out.size _),Hh (blk_alloc H12.out),Hh (.inr (.inr (.inr (.inr ⟨rfl,HS.out⟩))))⟩
      case measure=>simp [intOf]
  · obtain ⟨_,_,_,_,hix⟩:=indexA5 (.func (.func 102) #[rdV (.slice a n c)] #[]) (.func (.func 103) #[rdV (.slice a n c)] #[]) (.func (.func 104) #[rdV (.slice a n c)] #[]) (.func (.func 105) #[rdV (.slice a n c)] #[]) (.func (.func 106) #[rdV (.slice a n c)] #[]) wr
    have HS:=Hh hS; clear hS
    go_wp2_with fail
    (with_reducible refine (H4.out _ HB.out).mono ?_)
    rintro e w2 ⟨p,rfl,ho,hb2⟩
    have hl:=blk_lt HX.out
    have h12:=blk_below HX.out hb2 hl
    obtain ⟨z0,z1,z2,f0,f1,f2⟩:=cells3 h12
    have hl2:=blk_lt h12
    have H12:=Hh h12; have HO:=Hh ho
    have HB2:=Hh (HB.out.trans (hb2.mono HB.out.size))
    clear hb2 h12 ho hl
    go_wp2_with fail
    obtain ⟨g1,g2,g3⟩:=ar_fin (q:=p) (k:=k4) (s:=s4) H12.out HO.out HB2.out (Nat.le_refl _) _ rfl
    have g4:=blk_alloc (o':=.cells #[.int .i64 k4,.string s4,.pointer p] 84) g1
    have g5:=g2.below ((Below.refl _ _).alloc (Nat.le_refl _) (.cells #[.int .i64 k4,.string s4,.pointer p] 84))
    obtain ⟨n0,n1,n2,_⟩:=cells3 g4
    refine bodyPost_ret (v:=.tuple #[.agg #[.int .i64 k4,.string s4,.pointer p],.int .i64 c4]) (by simp [results,Tryz.results46,go_sem,n0,n1,n2]) rfl ⟨p,?_,?_,g3.alloc g3.size _⟩
    · have q:=HS.out
      cases q
      rfl
    · have q:=HS.out
      cases q
      exact g5
theorem parseA_any (l:List Tok) (v:Value) (w:World) (hr:Row w v l.length (tokc l)) (hs:TokOk l) (hl:l.length≤1000000):Calls Tryz.prog 46 #[v] w (ArRes (argOf l) w):=by
 obtain ⟨M,hM⟩:∃ M,(innerP l).getD []=M:=⟨_,rfl⟩
 obtain ⟨B,hB⟩:∃ B,(innerP l).isSome=B:=⟨_,rfl⟩
 obtain ⟨a,c,hv,_,_⟩:=id hr
 refine parseA_raw v a l.length c hv w _ _ _ _ _ (fun X hb=>argName_any l v X (hr.below hb) hs) _ _ _ _ _ (fun X hb=>point_raw l M B v X (hr.below hb) hs hl hB hM) _ _ _ _ _ (fun X hb=>index_any7 l M B v X (hr.below hb) hs hl hB hM) _ _ _ _ _ (fun X hb=>place_raw l M B v X (hr.below hb) hs hl hB hM) _ _ _ _ _ (fun X hb=>argValue_any l v X (hr.below hb) hs hl) rfl (argOf l) ?_
 show argOf l=if (decide (l.length=1) && resvA (wordAt l 0))=true then _ else if (B && decide (M.length=1) && (regP (wordAt M 0)).isSome)=true then _ else if (B && idxQ M)=true then (if (B && idxQ M)=true then exprA 3 (wordAt M 0) (M.drop 1) else (ar0,0)) else if B=true then (if B=true then exprA 5 ⟨#[]⟩ M else (ar0,0)) else exprA 4 ⟨#[]⟩ l
 unfold argOf
 simp only [Bool.and_eq_true,decide_eq_true_eq]
 split
 · rfl
 · unfold argP1
   cases hi:innerP l with
   | none =>
     rw [hi] at hB hM
     subst hB
     simp
   | some m =>
     rw [hi] at hB hM
     subst hB
     dsimp only [Option.getD_some] at hM
     subst hM
     simp only [Option.isSome_some,true_and]
     unfold idxQ
     simp only [Bool.and_eq_true,decide_eq_true_eq,and_assoc]
     split
     · rfl
     · split
       · rfl
       · simp
end Go.Proofs.YtkldoojonnkfgaaGreatDoor
