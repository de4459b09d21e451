/- Joined texts: IsT, InnerT, ExprT, PartT, LStr, LabT. -/
import Derived.Test.YtkldoojonnkfgaaGreatDoorC31
import Derived.Test.YtkldoojonnkfgaaGreatDoorC32
namespace Go.Proofs.YtkldoojonnkfgaaGreatDoor
open Go.RowKit Go.Sort
abbrev tokV (t:Tok):Value:=.agg #[.int .i64 t.kind,.string t.text,.int .i64 t.n,.int .i64 t.off]
set_option maxHeartbeats 1000000 in
theorem lexIs_any (k n off:Int) (s:ByteArray) (ws:List ByteArray) (v:Value) (w:World) (hr:Row w v ws.length (ws.map Value.string)) (hl:ws.length≤1000) :
 Calls Tryz.prog 57 #[.agg #[.int .i64 k,.string s,.int .i64 n,.int .i64 off],v] w fun e w'=>e=.returned (.bool (decide (k=4) && ws.any fun x=>s.toList == x.toList))∧Below w.heap.size w w':=by
 obtain ⟨R,hR⟩:∃ R,(decide (k=4) && ws.any fun x=>s.toList == x.toList)=R:=⟨_,rfl⟩
 rw [hR]
 obtain ⟨a,c,rfl,hc,hrow⟩:=hr
 have HR:=Hh hR; clear hR
 have HROW:=Hh hrow; clear hrow
 go_enter Tryz.func57,Tryz.ntmps57
 go_wp2_with fail
 go_loopw [9] (fun i wr=>∃ j:Nat,j≤ws.length∧i=.int .i64 j∧wr=w.alloc (.cells #[.int .i64 k,.string s,.int .i64 n,.int .i64 off] 34)∧Hid (R=(decide (k=4) && (ws.drop j).any fun x=>s.toList == x.toList))) (fun i _=>ws.length - (intOf i).toNat)
 case atStart=>exact ⟨0,Nat.zero_le _,rfl,rfl,Hh (by rw [List.drop_zero]; exact HR.out.symm)⟩
 case round =>
  obtain ⟨j,hj,rfl,rfl,HP⟩:=hrel
  by_cases hlt:j<ws.length
  · obtain ⟨x,hx⟩:∃ x,ws[j]? = some x:=⟨_,List.getElem?_eq_getElem hlt⟩
    obtain ⟨g,o,rfl,hg,hcs⟩:=HROW.out (by intro e; rw [List.map_eq_nil_iff] at e; rw [e] at hlt; exact absurd hlt (Nat.not_lt_zero _))
    have hcy:w.cell? ⟨g,o+j,none⟩=some (.string x):=by rw [hcs j (by rw [List.length_map]; exact hlt),List.getElem?_map,hx]; rfl
    clear hcs
    have hd:ws.drop j=x::ws.drop (j+1):=by
     obtain ⟨h1,h2⟩:=List.getElem?_eq_some_iff.1 hx
     rw [List.drop_eq_getElem_cons h1,h2]
    have HD:=Hh hd; clear hd hx
    have hi0:(0:Int)≤(j:Int):=by omega
    have hi1:(j:Int)<(ws.length:Int):=by omega
    rcases hk:(k == 4) with _ | _
    · have hk4:decide (k=4)=false:=by simpa using hk
      have HK:=Hh hk4; clear hk4
      go_wp2_with fail
      go_roundw
      case rel=>exact ⟨j+1,by omega,by go_num,by trivial,Hh (by rw [HP.out,HK.out]; rfl)⟩
      case measure=>simp [intOf]; omega
    · have hk4:decide (k=4)=true:=by simpa using hk
      have HK:=Hh hk4; clear hk4
      rcases hb:(s.toList == x.toList) with _ | _
      · have HB:=Hh hb
        go_wp2_with fail
        go_roundw
        case rel=>exact ⟨j+1,by omega,by go_num,by trivial,Hh (by rw [HP.out,HD.out,List.any_cons,HB.out]; simp)⟩
        case measure=>simp [intOf]; omega
      · have HB:=Hh hb
        go_wp2_with fail
        go_ret
        exact ⟨by rw [HP.out,HD.out,List.any_cons,HB.out,HK.out]; rfl,bl⟩
  · obtain rfl:j=ws.length:=by omega
    go_wp2_with fail
    go_ret
    exact ⟨by rw [HP.out,List.drop_length]; simp,bl⟩
theorem tl1 (l:List UInt8):(⟨l.toArray⟩:ByteArray).toList=l:=by rw [ByteArray.toList_eq]
theorem row1 {w:World} {b:Nat} {x:Value} (h:w.cell? ⟨b,0,none⟩=some x):Row w (.slice (some ⟨b,0,none⟩) 1 1) 1 [x] :=
 ⟨_,_,rfl,Nat.le_refl _,fun _=>⟨b,0,rfl,block_lt_of_cell (a:=⟨b,0,none⟩) h,fun j hj=>by
  obtain rfl:j=0:=by simp at hj; omega
  exact h⟩⟩
theorem row2 {w:World} {b:Nat} {x y:Value} (h:w.cell? ⟨b,0,none⟩=some x) (h2:w.cell? ⟨b,1,none⟩=some y):Row w (.slice (some ⟨b,0,none⟩) 2 2) 2 [x,y] :=
 ⟨_,_,rfl,Nat.le_refl _,fun _=>⟨b,0,rfl,block_lt_of_cell (a:=⟨b,0,none⟩) h,fun j hj=>by
  have:j=0∨j=1:=by simp at hj; omega
  rcases this with rfl | rfl
  · exact h
  · exact h2⟩⟩
theorem is1_any (k:Int) (s:ByteArray) (n off:Int) (c:UInt8) (b:Nat) (w:World) (h:w.cell? ⟨b,0,none⟩=some (.string ⟨#[c]⟩)):Calls Tryz.prog 57 #[.agg #[.int .i64 k,.string s,.int .i64 n,.int .i64 off],.slice (some ⟨b,0,none⟩) 1 1] w fun e w'=>e=.returned (.bool (signIs ⟨k,s,n,off⟩ [c]))∧Below w.heap.size w w':=by
 have h:=lexIs_any k n off s [⟨#[c]⟩] _ _ (row1 h) (by simp)
 refine h.mono ?_
 rintro e w' ⟨rfl,hb⟩
 refine ⟨?_,hb⟩
 have:signIs ⟨k,s,n,off⟩ [c]=(decide (k=4) && [(⟨#[c]⟩:ByteArray)].any fun x=>s.toList == x.toList):=by
  unfold signIs
  have h2:(⟨#[c]⟩:ByteArray).toList=[c]:=tl1 [c]
  simp only [List.any_cons,List.any_nil,Bool.or_false,h2]
 rw [this]
theorem is2_any (k:Int) (s:ByteArray) (n off:Int) (c d:UInt8) (b:Nat) (w:World) (h:w.cell? ⟨b,0,none⟩=some (.string ⟨#[c]⟩)) (h2:w.cell? ⟨b,1,none⟩=some (.string ⟨#[d]⟩)):Calls Tryz.prog 57 #[.agg #[.int .i64 k,.string s,.int .i64 n,.int .i64 off],.slice (some ⟨b,0,none⟩) 2 2] w fun e w'=>e=.returned (.bool (signIs ⟨k,s,n,off⟩ [c] || signIs ⟨k,s,n,off⟩ [d]))∧Below w.heap.size w w':=by
 have h:=lexIs_any k n off s [⟨#[c]⟩,⟨#[d]⟩] _ _ (row2 h h2) (by simp)
 refine h.mono ?_
 rintro e w' ⟨rfl,hb⟩
 refine ⟨?_,hb⟩
 have:(signIs ⟨k,s,n,off⟩ [c] || signIs ⟨k,s,n,off⟩ [d])=(decide (k=4) && [(⟨#[c]⟩:ByteArray),⟨#[d]⟩].any fun x=>s.toList == x.toList):=by
  unfold signIs
  have h2:(⟨#[c]⟩:ByteArray).toList=[c]:=tl1 [c]
  have h3:(⟨#[d]⟩:ByteArray).toList=[d]:=tl1 [d]
  simp only [List.any_cons,List.any_nil,Bool.or_false,h2,h3]
  cases decide (k=4)<;>simp
 rw [this]
set_option maxHeartbeats 1000000 in
theorem deeper_raw (k:Int) (s:ByteArray) (n o:Int) (w:World) (b1 b2:Bool) (D:Int) (hD:(if b1=true then 1 else if b2=true then -1 else 0)=D)
 (h1:∀ (b:Nat) (W:World),W.cell? ⟨b,0,none⟩=some (.string ⟨#[40]⟩)→Calls Tryz.prog 57 #[.agg #[.int .i64 k,.string s,.int .i64 n,.int .i64 o],.slice (some ⟨b,0,none⟩) 1 1] W fun e w'=>e=.returned (.bool b1)∧Below W.heap.size W w')
 (h2:∀ (b:Nat) (W:World),W.cell? ⟨b,0,none⟩=some (.string ⟨#[41]⟩)→Calls Tryz.prog 57 #[.agg #[.int .i64 k,.string s,.int .i64 n,.int .i64 o],.slice (some ⟨b,0,none⟩) 1 1] W fun e w'=>e=.returned (.bool b2)∧Below W.heap.size W w') :
 Calls Tryz.prog 56 #[.agg #[.int .i64 k,.string s,.int .i64 n,.int .i64 o]] w fun e w'=>e=.returned (.int .i64 D)∧Below w.heap.size w w':=by
 have H1:=Hh h1; have H2:=Hh h2
 clear h1 h2
 cases b1 with
 | true =>
   obtain rfl:D=1:=by rw [←hD]; rfl
   clear hD
   go_enter Tryz.func56,Tryz.ntmps56
   go_wp2_with fail
   (with_reducible refine (H1.out _ _ ?_).mono ?_)
   · simp [go_sem]
   rintro e w1 ⟨rfl,hb1⟩
   obtain ⟨p1,rfl⟩:=gw_of_below hb1
   clear hb1
   go_wp2_with fail
   go_ret
   exact ⟨rfl,bl⟩
 | false =>
   cases b2 with
   | true =>
     obtain rfl:D=-1:=by rw [←hD]; rfl
     clear hD
     go_enter Tryz.func56,Tryz.ntmps56
     go_wp2_with fail
     (with_reducible refine (H1.out _ _ ?_).mono ?_)
     · simp [go_sem]
     rintro e w1 ⟨rfl,hb1⟩
     obtain ⟨p1,rfl⟩:=gw_of_below hb1
     clear hb1
     go_wp2_with fail
     (with_reducible refine (H2.out _ _ ?_).mono ?_)
     · simp [go_sem]
     rintro e w1 ⟨rfl,hb1⟩
     obtain ⟨p2,rfl⟩:=gw_of_below hb1
     clear hb1
     go_wp2_with fail
     go_ret
     exact ⟨rfl,bl⟩
   | false =>
     obtain rfl:D=0:=by rw [←hD]; rfl
     clear hD
     go_enter Tryz.func56,Tryz.ntmps56
     go_wp2_with fail
     (with_reducible refine (H1.out _ _ ?_).mono ?_)
     · simp [go_sem]
     rintro e w1 ⟨rfl,hb1⟩
     obtain ⟨p1,rfl⟩:=gw_of_below hb1
     clear hb1
     go_wp2_with fail
     (with_reducible refine (H2.out _ _ ?_).mono ?_)
     · simp [go_sem]
     rintro e w1 ⟨rfl,hb1⟩
     obtain ⟨p2,rfl⟩:=gw_of_below hb1
     clear hb1
     go_wp2_with fail
     go_ret
     exact ⟨rfl,bl⟩
theorem deeper_any (t:Tok) (w:World):Calls Tryz.prog 56 #[tokV t] w fun e w'=>e=.returned (.int .i64 (deeperP t))∧Below w.heap.size w w' :=
 deeper_raw t.kind t.text t.n t.off w _ _ _ rfl (fun b W h=>is1_any t.kind t.text t.n t.off 40 b W h) (fun b W h=>is1_any t.kind t.text t.n t.off 41 b W h)
abbrev rdV (v:Value):Value:=.agg #[v]
set_option maxRecDepth 100000 in
set_option maxHeartbeats 1000000 in
theorem argWord_any (l:List Tok) (i:Nat) (v:Value) (w:World) (hr:Row w v l.length (tokc l)) (hi:i≤1000) (hs:∀ t∈l,t.text.size≤maxLen) :
 Calls Tryz.prog 179 #[rdV v,.int .i64 i] w fun e w'=>e=.returned (.string (wordAt l i))∧Below w.heap.size w w':=by
 obtain ⟨a,c,rfl,hc,hcs⟩:=hr.tok
 have hi0:(0:Int)≤(i:Int):=by omega
 by_cases hlt:i<l.length
 · obtain ⟨t,ht⟩:∃ t,l[i]? = some t:=⟨_,List.getElem?_eq_getElem hlt⟩
   obtain ⟨g,o,rfl,hg,hcs⟩:=hcs (by rintro rfl; exact absurd hlt (Nat.not_lt_zero _))
   obtain ⟨k0,k1,k2,k3⟩:=hcs i t ht
   have hup:=fun W=>upper_any t.text W (hs t (List.mem_of_getElem? ht))
   have HUP:=Hh hup; clear hup hcs
   have hi1:(i:Int)<(l.length:Int):=by omega
   rcases hk:(t.kind == 1) with _ | _
   · have hw:wordAt l i=⟨#[]⟩:=by unfold wordAt; rw [ht]; dsimp only; rw [if_neg (by simpa using hk)]
     rw [hw]
     clear hw ht hs hr
     obtain ⟨k,s,n,off⟩:=t
     dsimp only at k0 k1 k2 k3 hk HUP
     go_enter Tryz.func179,Tryz.ntmps179
     go_wp2_with fail
     go_ret
     exact ⟨rfl,bl⟩
   · have hw:wordAt l i=upper t.text:=by unfold wordAt; rw [ht]; dsimp only; rw [if_pos (by simpa using hk)]
     rw [hw]
     clear hw ht hs hr
     obtain ⟨k,s,n,off⟩:=t
     dsimp only at k0 k1 k2 k3 hk HUP ⊢
     go_enter Tryz.func179,Tryz.ntmps179
     go_wp2_with fail
     refine (HUP.out _).mono ?_
     rintro e w1 ⟨rfl,hb1⟩
     obtain ⟨p1,rfl⟩:=gw_of_below hb1
     clear hb1
     go_wp2_with fail
     go_ret
     exact ⟨rfl,bl⟩
 · have hw:wordAt l i=⟨#[]⟩:=by unfold wordAt; rw [List.getElem?_eq_none (by omega)]
   rw [hw]
   have hi1:¬ (i:Int)<(l.length:Int):=by omega
   go_enter Tryz.func179,Tryz.ntmps179
   go_wp2_with fail
   go_ret
   exact ⟨rfl,bl⟩
theorem innerGo_step {n i:Nat} {d:Int} {l:List Tok} {j:Nat} {t:Tok} (h:l[j]? = some t):innerGo n i d (l.drop j)=if d+deeperP t≤0 then decide (0<i) && decide (i+1=n) else innerGo n (i+1) (d+deeperP t) (l.drop (j+1)):=by
 obtain ⟨h1,h2⟩:=List.getElem?_eq_some_iff.1 h
 rw [List.drop_eq_getElem_cons h1,h2]
 rfl
theorem inner_part (l:List Tok):(l.drop 1).take (l.length - 2)=(l.take (l.length - 1)).drop 1:=by
 rw [List.drop_take,Nat.sub_sub]
theorem deeper_small (t:Tok):-1≤deeperP t∧deeperP t≤1:=by
 unfold deeperP
 repeat' split
 all_goals omega
set_option maxRecDepth 100000 in
set_option maxHeartbeats 4000000 in
theorem inner_any (l:List Tok) (v:Value) (w:World) (hr:Row w v l.length (tokc l)) (hl:l.length≤1000000) :
 Calls Tryz.prog 180 #[rdV v] w fun e w'=>∃ a n c,e=.returned (.tuple #[rdV (.slice a n c),.bool (innerP l).isSome])∧Row w' (.slice a n c) ((innerP l).getD []).length (tokc ((innerP l).getD []))∧Below w.heap.size w w':=by
 obtain ⟨R,hR⟩:∃ R,innerGo l.length 0 0 l=R:=⟨_,rfl⟩
 have hI:innerP l=if R=true then some ((l.take (l.length - 1)).drop 1) else none:=by unfold innerP; rw [hR,inner_part]
 obtain ⟨B,hB⟩:∃ B,(innerP l).isSome=B:=⟨_,rfl⟩
 obtain ⟨M,hM⟩:∃ M,(innerP l).getD []=M:=⟨_,rfl⟩
 have h1:R=true→B=true∧M=(l.take (l.length - 1)).drop 1:=fun h=>by rw [hI,if_pos h] at hB hM; exact ⟨hB.symm,hM.symm⟩
 have h2:R=false→B=false∧M=[]:=fun h=>by rw [hI,if_neg (by rw [h]; decide)] at hB hM; exact ⟨hB.symm,hM.symm⟩
 rw [hB,hM]
 have HRR:=Hh hR
 have HY:=Hh h1; have HN:=Hh h2
 clear hR hI hB hM h1 h2
 have HTOK:=Hh hr
 obtain ⟨a,c,rfl,hc,_⟩:=hr
 have hlc:(l.length:Int)≤(c:Int):=by omega
 have hl1:(l.length:Int)≤1000000:=by omega
 go_enter Tryz.func180,Tryz.ntmps180
 go_wp2_with fail
 obtain ⟨W,hW⟩:∃ W,((w.alloc (.cells #[.slice a l.length c] 185)).alloc (.cells #[.slice none 0 0] 185))=W:=⟨_,rfl⟩
 have hbW:Below w.heap.size w W:=by rw [←hW]; exact ((Below.refl _ _).alloc (Nat.le_refl _) _).alloc (by simp) _
 have hsz:W.heap.size=w.heap.size+1+1:=by rw [←hW]; simp
 have h0:W.heap[w.heap.size]? = some (.cells #[.slice a l.length c] 185 (0,0)):=by rw [←hW]; exact blk_alloc (blk_new _ _)
 have h1:W.heap[w.heap.size+1]? = some (.cells #[.slice none 0 0] 185 (0,0)):=by rw [←hW]; have:=blk_new (w.alloc (.cells #[.slice a l.length c] 185)) (.cells #[.slice none 0 0] 185); rwa [World.size_alloc] at this
 rw [hW]
 clear hW
 have HBW:=Hh hbW; have HSZ:=Hh hsz; have H0:=Hh h0; have H1:=Hh h1
 obtain ⟨t0⟩:Nonempty (W.cell? ⟨w.heap.size,0,none⟩=some (.slice a l.length c)):=⟨by rw [blk_cell h0]; rfl⟩
 clear hbW hsz h0 h1
 go_wp2_with fail
 go_loopw [4,11] (fun d i wr=>∃ (j:Nat) (dd:Int),j≤l.length∧-(j:Int)≤dd∧dd≤j∧i=.int .i64 j∧d=.int .i64 dd∧Hid (R=innerGo l.length j dd (l.drop j))∧Hid (Below W.heap.size W wr)) (fun _ i _=>l.length - (intOf i).toNat)
 case atStart=>exact ⟨0,0,Nat.zero_le _,by omega,by omega,rfl,rfl,Hh HRR.out.symm,Hh (Below.refl _ _)⟩
 case round =>
  obtain ⟨j,dd,hj,hd1,hd2,rfl,rfl,HG,HB⟩:=hrel
  have hwr:w.heap.size+1+1≤wr.heap.size:=by rw [←HSZ.out]; exact HB.out.size
  by_cases hlt:j<l.length
  · obtain ⟨t,ht⟩:∃ t,l[j]? = some t:=⟨_,List.getElem?_eq_getElem hlt⟩
    have hbr:=HBW.out.trans (HB.out.mono HBW.out.size)
    obtain ⟨g,o,cap,hv,hcap,hg,hcs,hsub⟩:=(HTOK.out.below hbr).tok2 (by rintro rfl; exact absurd hlt (Nat.not_lt_zero _))
    cases hv
    obtain ⟨k0,k1,k2,k3⟩:=hcs j t ht
    have h0:=blk_below H0.out HB.out (by rw [HSZ.out]; omega)
    have h1:=blk_below H1.out HB.out (by rw [HSZ.out]; omega)
    have c0:wr.cell? ⟨w.heap.size,0,none⟩=some (.slice (some ⟨g,o,none⟩) l.length c):=by rw [blk_cell h0]; rfl
    have hstep:=innerGo_step (n:=l.length) (i:=j) (d:=dd) ht
    have hdp:=fun W=>deeper_any t W
    have hds:=deeper_small t
    obtain ⟨D,hD⟩:∃ D,deeperP t=D:=⟨_,rfl⟩
    rw [hD] at hstep hdp hds
    have hG2:=HG.out.trans hstep
    have HG2:=Hh hG2; clear hG2 hstep hD
    have HDP:=Hh hdp; clear hdp
    have HH0:=Hh h0; have HH1:=Hh h1
    obtain ⟨_,_,_,hv2,_,_,_,hsub0⟩:=HTOK.out.tok2 (by rintro rfl; exact absurd hlt (Nat.not_lt_zero _))
    cases hv2
    have HSUB:=Hh hsub0
    have HTT:=Hh ht
    clear hcs hsub hsub0 h0 h1 ht HG hbr
    have hi0:(0:Int)≤(j:Int):=by omega
    have hi1:(j:Int)<(l.length:Int):=by omega
    obtain ⟨tk,tt,tn,tq⟩:=t
    dsimp only at k0 k1 k2 k3
    obtain ⟨hd3,hd4⟩:=hds
    by_cases hle:dd+D≤0
    · rw [if_pos hle] at HG2
      have hj0:((j:Int) == 0)=decide (j=0):=by by_cases h:j=0<;>simp [h]
      by_cases hlast:0<j∧j+1=l.length
      · have hr1:R=true:=by rw [HG2.out]; simp [hlast]
        have HR1:=Hh (HY.out hr1)
        obtain ⟨hl0,hl9⟩:=hlast
        have hj1:((j:Int) == 0)=false:=by rw [hj0]; simp; omega
        have hj2:¬ ((j:Int)<(l.length:Int) - 1):=by omega
        clear hr1 HG2 hj0
        go_wp2_with fail
        (with_reducible refine (HDP.out _).mono ?_)
        rintro e w2 ⟨rfl,hb2⟩
        have hbx:Below wr.heap.size wr w2:=below_of_alloc hb2
        have h02:=blk_below HH0.out hbx (by omega)
        have h12:=blk_below HH1.out hbx (by omega)
        have c02:w2.cell? ⟨w.heap.size,0,none⟩=some (.slice (some ⟨g,o,none⟩) l.length c):=by rw [blk_cell h02]; rfl
        have c12:w2.cell? ⟨w.heap.size+1,0,none⟩=some (.slice none 0 0):=by rw [blk_cell h12]; rfl
        have f12:w2.frozen? ⟨w.heap.size+1,0,none⟩=false:=blk_frozen h12 0
        have HBX:=Hh (HB.out.trans (hbx.mono HB.out.size))
        have HBX2:=Hh hbx
        have H12:=Hh h12
        clear hbx h02 h12 hb2 k0 k1 k2 k3
        go_wp2_with fail
        have e1:(w2.setCell ⟨w.heap.size+1,0,none⟩ (.slice (some ⟨g,o+4,none⟩) (l.length - 1 - 1) (c - 1))).cell? ⟨w.heap.size+1,0,none⟩=some (.slice (some ⟨g,o+4,none⟩) (l.length - 1 - 1) (c - 1)):=by rw [blk_cell (blk_set H12.out)]; rfl
        have hbf:=(HBW.out.trans (HBX.out.mono HBW.out.size)).setCell (p:=⟨w.heap.size+1,0,none⟩) (by show w.heap.size≤w.heap.size+1; omega) (.slice (some ⟨g,o+4,none⟩) (l.length - 1 - 1) (c - 1))
        have hrs:=HSUB.out 1 (l.length - 1) (some ⟨g,o+4,none⟩) (c - 1) (by omega) (by omega) (fun _=>by simp) (by omega)
        have hlm:((l.take (l.length - 1)).drop 1).length=l.length - 1 - 1:=by rw [List.length_drop,List.length_take]; omega
        refine bodyPost_ret (v:=.tuple #[rdV (.slice (some ⟨g,o+4,none⟩) (l.length - 1 - 1) (c - 1)),.bool true]) (by simp [results,Tryz.results180,go_sem,e1]) rfl ⟨_,_,_,by rw [HR1.out.1],?_,hbf⟩
        rw [HR1.out.2]
        exact hrs.below hbf
      · have hr0:R=false:=by rw [HG2.out]; simp only [Bool.and_eq_false_iff,decide_eq_false_iff_not]; omega
        have HR0:=Hh hr0
        clear hr0 HG2
        by_cases hjz:j=0
        · have hj1:((j:Int) == 0)=true:=by rw [hj0]; simp [hjz]
          clear hj0 hlast hjz
          go_wp2_with fail
          (with_reducible refine (HDP.out _).mono ?_)
          rintro e w2 ⟨rfl,hb2⟩
          have hbx:Below wr.heap.size wr w2:=below_of_alloc hb2
          have h02:=blk_below HH0.out hbx (by omega)
          have h12:=blk_below HH1.out hbx (by omega)
          have c02:w2.cell? ⟨w.heap.size,0,none⟩=some (.slice (some ⟨g,o,none⟩) l.length c):=by rw [blk_cell h02]; rfl
          have c12:w2.cell? ⟨w.heap.size+1,0,none⟩=some (.slice none 0 0):=by rw [blk_cell h12]; rfl
          have f12:w2.frozen? ⟨w.heap.size+1,0,none⟩=false:=blk_frozen h12 0
          have HBX:=Hh (HB.out.trans (hbx.mono HB.out.size))
          have HBX2:=Hh hbx
          have H12:=Hh h12
          clear hbx h02 h12 hb2 k0 k1 k2 k3
          have HN0:=Hh (HN.out HR0.out)
          go_wp2_with fail
          have e1:(w2.setCell ⟨w.heap.size+1,0,none⟩ (.slice none 0 0)).cell? ⟨w.heap.size+1,0,none⟩=some (.slice none 0 0):=by rw [blk_cell (blk_set H12.out)]; rfl
          refine bodyPost_ret (v:=.tuple #[rdV (.slice none 0 0),.bool false]) (by simp [results,Tryz.results180,go_sem,e1]) rfl ⟨none,0,0,by rw [HN0.out.1],by rw [HN0.out.2]; exact (WRow.nil _ 0).row,((HBW.out.trans (HBX.out.mono HBW.out.size)).setCell (p:=⟨w.heap.size+1,0,none⟩) (by show w.heap.size≤w.heap.size+1; omega) _)⟩
        · have hj1:((j:Int) == 0)=false:=by rw [hj0]; simp [hjz]
          have hj2:((j:Int)<(l.length:Int) - 1):=by omega
          clear hj0 hlast hjz
          go_wp2_with fail
          (with_reducible refine (HDP.out _).mono ?_)
          rintro e w2 ⟨rfl,hb2⟩
          have hbx:Below wr.heap.size wr w2:=below_of_alloc hb2
          have h02:=blk_below HH0.out hbx (by omega)
          have h12:=blk_below HH1.out hbx (by omega)
          have c02:w2.cell? ⟨w.heap.size,0,none⟩=some (.slice (some ⟨g,o,none⟩) l.length c):=by rw [blk_cell h02]; rfl
          have c12:w2.cell? ⟨w.heap.size+1,0,none⟩=some (.slice none 0 0):=by rw [blk_cell h12]; rfl
          have f12:w2.frozen? ⟨w.heap.size+1,0,none⟩=false:=blk_frozen h12 0
          have HBX:=Hh (HB.out.trans (hbx.mono HB.out.size))
          have HBX2:=Hh hbx
          have H12:=Hh h12
          clear hbx h02 h12 hb2 k0 k1 k2 k3
          have HN0:=Hh (HN.out HR0.out)
          go_wp2_with fail
          have e1:(w2.setCell ⟨w.heap.size+1,0,none⟩ (.slice none 0 0)).cell? ⟨w.heap.size+1,0,none⟩=some (.slice none 0 0):=by rw [blk_cell (blk_set H12.out)]; rfl
          refine bodyPost_ret (v:=.tuple #[rdV (.slice none 0 0),.bool false]) (by simp [results,Tryz.results180,go_sem,e1]) rfl ⟨none,0,0,by rw [HN0.out.1],by rw [HN0.out.2]; exact (WRow.nil _ 0).row,((HBW.out.trans (HBX.out.mono HBW.out.size)).setCell (p:=⟨w.heap.size+1,0,none⟩) (by show w.heap.size≤w.heap.size+1; omega) _)⟩
    · rw [if_neg hle] at HG2
      go_wp2_with fail
      (with_reducible refine (HDP.out _).mono ?_)
      rintro e w2 ⟨rfl,hb2⟩
      have hbx:Below wr.heap.size wr w2:=below_of_alloc hb2
      have h02:=blk_below HH0.out hbx (by omega)
      have h12:=blk_below HH1.out hbx (by omega)
      have c02:w2.cell? ⟨w.heap.size,0,none⟩=some (.slice (some ⟨g,o,none⟩) l.length c):=by rw [blk_cell h02]; rfl
      have c12:w2.cell? ⟨w.heap.size+1,0,none⟩=some (.slice none 0 0):=by rw [blk_cell h12]; rfl
      have f12:w2.frozen? ⟨w.heap.size+1,0,none⟩=false:=blk_frozen h12 0
      have HBX:=Hh (HB.out.trans (hbx.mono HB.out.size))
      have HBX2:=Hh hbx
      have H12:=Hh h12
      clear hbx h02 h12 hb2 k0 k1 k2 k3
      go_wp2_with fail
      go_roundw
      case rel=>exact ⟨j+1,dd+D,by omega,by omega,by omega,by go_num,rfl,HG2,HBX⟩
      case measure=>simp [intOf]; omega
  · obtain rfl:j=l.length:=by omega
    have hr0:R=false:=by rw [HG.out,List.drop_length]; rfl
    have HR0:=Hh hr0
    have h12:=blk_below H1.out HB.out (by rw [HSZ.out]; omega)
    have c12:wr.cell? ⟨w.heap.size+1,0,none⟩=some (.slice none 0 0):=by rw [blk_cell h12]; rfl
    have f12:wr.frozen? ⟨w.heap.size+1,0,none⟩=false:=blk_frozen h12 0
    have H12:=Hh h12
    clear h12 hr0
    have HN0:=Hh (HN.out HR0.out)
    go_wp2_with fail
    have e1:(wr.setCell ⟨w.heap.size+1,0,none⟩ (.slice none 0 0)).cell? ⟨w.heap.size+1,0,none⟩=some (.slice none 0 0):=by rw [blk_cell (blk_set H12.out)]; rfl
    refine bodyPost_ret (v:=.tuple #[rdV (.slice none 0 0),.bool false]) (by simp [results,Tryz.results180,go_sem,e1]) rfl ⟨none,0,0,by rw [HN0.out.1],by rw [HN0.out.2]; exact (WRow.nil _ 0).row,((HBW.out.trans (HB.out.mono HBW.out.size)).setCell (p:=⟨w.heap.size+1,0,none⟩) (by show w.heap.size≤w.heap.size+1; omega) _)⟩
theorem NodeAt.keepN {T:TypeId} {B:Nat} {w w':World} (hk:∀ (k:Nat) (c:Array Value) (r:Nat × Nat),w.heap[k]? = some (Obj.cells c T r)→w'.heap[k]? = some (Obj.cells c T r)):∀ (x:Ex) (v:Value),NodeAt T B w x v→NodeAt T B w' x v
 | .num _,_,⟨g,h1,h2,h3⟩=>⟨g,h1,h2,hk _ _ _ h3⟩
 | .sym _,_,⟨g,h1,h2,h3⟩=>⟨g,h1,h2,hk _ _ _ h3⟩
 | .here,_,⟨g,h1,h2,h3⟩=>⟨g,h1,h2,hk _ _ _ h3⟩
 | .un _ a,_,⟨g,va,h1,h2,h3,h4⟩=>⟨g,va,h1,h2,hk _ _ _ h3,NodeAt.keepN hk a va h4⟩
 | .bin _ a b,_,⟨g,va,vb,h1,h2,h3,h4,h5⟩=>⟨g,va,vb,h1,h2,hk _ _ _ h3,NodeAt.keepN hk a va h4,NodeAt.keepN hk b vb h5⟩
theorem OptAt.setBox {T T2:TypeId} {w:World} {o:Option Ex} {v u:Value} {b i:Nat} {C:Array Value} {r2:Nat × Nat} (h:OptAt T w o v) (hb:w.heap[b]? = some (.cells C T2 r2)) (hT:T2≠T):OptAt T (w.setCell ⟨b,i,none⟩ u) o v:=by
 cases o with
 | none=>exact h
 | some x =>
   refine NodeAt.keepN (fun k c r hk=>blk_other hk (fun e=>?_)) x v h
   rw [e,hb] at hk
   have:=Option.some.inj hk
   simp only [Obj.cells.injEq] at this
   exact hT this.2.1
abbrev arV (a:Ar) (p:Option Addr):Value:=.agg #[.int .i64 a.kind,.string a.text,.pointer p]
def ar0:Ar:=⟨0,⟨#[]⟩,none⟩
theorem exprA_ok {kind:Int} {text:ByteArray} {l:List Tok} (h:(parseR l).1=0):exprA kind text l=(⟨kind,text,(parseR l).2⟩,0):=by
 unfold exprA
 cases hp:parseR l with
 | mk c o =>
   rw [hp] at h
   dsimp only at h
   subst h
   cases o with
   | some x=>rfl
   | none =>
     have:=parseR_code (l:=l) (by rw [hp])
     rw [hp] at this
     dsimp only at this
     omega
theorem exprA_no {kind:Int} {text:ByteArray} {l:List Tok} (h:(parseR l).1≠0):exprA kind text l=(ar0,(parseR l).1):=by
 unfold exprA
 cases hp:parseR l with
 | mk c o =>
   rw [hp] at h
   dsimp only at h
   cases o with
   | some x=>dsimp only; rw [if_neg h]; rfl
   | none=>rfl
def ArRes (x:Ar × Int) (w:World) (e:Ending) (w':World):Prop:=∃ p,e=.returned (.tuple #[arV x.1 p,.int .i64 x.2])∧OptAt 225 w' x.1.ex (.pointer p)∧Below w.heap.size w w'
set_option maxRecDepth 100000 in
set_option maxHeartbeats 2000000 in
theorem expression_any (l:List Tok) (v:Value) (kind:Int) (text:ByteArray) (w:World) (hr:Row w v l.length (tokc l)) (hs:TokOk l) (hl:l.length≤1000000) :
 Calls Tryz.prog 182 #[rdV v,.int .i64 kind,.string text] w (ArRes (exprA kind text l) w):=by
 have hp:=fun X (hb:Below w.heap.size w X)=>exprParse_any l v X (hr.below hb) hs hl
 unfold ParseRes at hp
 unfold ArRes
 obtain ⟨a,c,rfl,_,_⟩:=hr
 by_cases h0:(parseR l).1=0
 · rw [exprA_ok h0]
   rw [h0] at hp
   obtain ⟨O,hO⟩:∃ O,(parseR l).2=O:=⟨_,rfl⟩
   rw [hO] at hp ⊢
   have HP:=Hh hp; clear hp hO h0
   dsimp only
   go_enter Tryz.func182,Tryz.ntmps182
   go_wp2_with fail
   have hbW:Below w.heap.size w ((w.alloc (.cells #[.slice a l.length c] 185)).alloc (.cells #[.int .i64 0,.string ⟨#[]⟩,.pointer none] 84)):=bl
   have h1:=blk_new (w.alloc (.cells #[.slice a l.length c] 185)) (.cells #[.int .i64 0,.string ⟨#[]⟩,.pointer none] 84)
   rw [World.size_alloc] at h1
   (with_reducible refine (HP.out _ hbW).mono ?_)
   rintro e w2 ⟨vt,rfl,ho,hb2⟩
   obtain ⟨p,rfl⟩:=OptAt.ptr ho
   have h12:=blk_below h1 hb2 (by simp)
   obtain ⟨k0,k1,k2,f0,f1,f2⟩:=cells3 h12
   have HO:=Hh ho; have H12:=Hh h12
   have HB2:=Hh (hbW.trans (hb2.mono hbW.size))
   clear hbW h1 hb2 ho h12
   go_wp2_with fail
   have g1:(((w2.setCell ⟨w.heap.size+1,0,none⟩ (.int .i64 kind)).setCell ⟨w.heap.size+1,1,none⟩ (.string text)).setCell ⟨w.heap.size+1,2,none⟩ (.pointer p)).heap[w.heap.size+1]? = some (.cells #[.int .i64 kind,.string text,.pointer p] 84 (0,0)):=blk_set (blk_set (blk_set H12.out))
   obtain ⟨n0,n1,n2,_⟩:=cells3 g1
   refine bodyPost_ret (v:=.tuple #[.agg #[.int .i64 kind,.string text,.pointer p],.int .i64 0]) (by simp [results,Tryz.results182,go_sem,n0,n1,n2]) rfl ⟨p,rfl,?_,?_⟩
   · exact OptAt.setBox (OptAt.setBox (OptAt.setBox HO.out H12.out (by decide)) (blk_set H12.out) (by decide)) (blk_set (blk_set H12.out)) (by decide)
   · have hb9:=HB2.out
     with_reducible repeat (refine Below.setCell ?_ (by exact Nat.le_succ _) _)
     exact hb9
 · rw [exprA_no h0]
   obtain ⟨C,hC⟩:∃ C,(parseR l).1=C:=⟨_,rfl⟩
   rw [hC] at hp h0 ⊢
   have HP:=Hh hp; clear hp hC
   have hne:(C != 0)=true:=bne_iff_ne.2 h0
   clear h0
   show Calls Tryz.prog 182 #[rdV (.slice a l.length c),.int .i64 kind,.string text] w fun e w'=>∃ p,e=.returned (.tuple #[.agg #[.int .i64 0,.string ⟨#[]⟩,.pointer p],.int .i64 C])∧OptAt 225 w' none (.pointer p)∧Below w.heap.size w w'
   go_enter Tryz.func182,Tryz.ntmps182
   go_wp2_with fail
   have hbW:Below w.heap.size w ((w.alloc (.cells #[.slice a l.length c] 185)).alloc (.cells #[.int .i64 0,.string ⟨#[]⟩,.pointer none] 84)):=bl
   have h1:=blk_new (w.alloc (.cells #[.slice a l.length c] 185)) (.cells #[.int .i64 0,.string ⟨#[]⟩,.pointer none] 84)
   rw [World.size_alloc] at h1
   (with_reducible refine (HP.out _ hbW).mono ?_)
   rintro e w2 ⟨vt,rfl,ho,hb2⟩
   obtain ⟨p,rfl⟩:=OptAt.ptr ho
   have h12:=blk_below h1 hb2 (by simp)
   obtain ⟨k0,k1,k2,f0,f1,f2⟩:=cells3 h12
   have H12:=Hh h12
   have HB2:=Hh (hbW.trans (hb2.mono hbW.size))
   clear hbW h1 hb2 ho h12
   go_wp2_with fail
   have g1:(((w2.setCell ⟨w.heap.size+1,0,none⟩ (.int .i64 0)).setCell ⟨w.heap.size+1,1,none⟩ (.string ⟨#[]⟩)).setCell ⟨w.heap.size+1,2,none⟩ (.pointer none)).heap[w.heap.size+1]? = some (.cells #[.int .i64 0,.string ⟨#[]⟩,.pointer none] 84 (0,0)):=blk_set (blk_set (blk_set H12.out))
   obtain ⟨n0,n1,n2,_⟩:=cells3 g1
   refine bodyPost_ret (v:=.tuple #[.agg #[.int .i64 0,.string ⟨#[]⟩,.pointer none],.int .i64 C]) (by simp [results,Tryz.results182,go_sem,n0,n1,n2]) rfl ⟨none,rfl,rfl,?_⟩
   have hb9:=HB2.out
   with_reducible repeat (refine Below.setCell ?_ (by exact Nat.le_succ _) _)
   exact hb9
def PtRes (x:Pt × Int) (w:World) (e:Ending) (w':World):Prop:=∃ p,e=.returned (.tuple #[.agg #[.string x.1.text,.pointer p],.int .i64 x.2])∧OptAt 225 w' x.1.ex (.pointer p)∧Below w.heap.size w w'
theorem t114_0 {p:Prop} (h:p:=by
 have:=HBB.out
 (repeat (first | exact Below.refl _ _ | refine Below.drew ?_ | (refine below_gw' ?_ (by first | omega | (simp [go_sem]; done) | (simp [go_sem]; omega)) _) | (refine Below.alloc ?_ (by first | omega | (simp [go_sem]; done) | (simp [go_sem]; omega)) _) | (refine Below.setCell ?_ (by first | omega | (simp [go_sem]; done) | (simp [go_sem]; omega)) _)))
 exact this):p:=h
theorem t114_1 {p:Prop} (h:p:=by
 cases ox with
 | none=>exact ⟨none,ho⟩
 | some x=>obtain ⟨g,e,_⟩:=NodeAt.ptr ho; exact ⟨_,e⟩):p:=h
set_option maxHeartbeats 2000000 in
set_option maxRecDepth 100000 in
theorem linePart_any (d:List UInt8) (fv:Value) (l:List Tok) (v:Value) (w:World) (hr:Row w v l.length (tokc l)) (hs:TokOk l) (hl:l.length≤100000) :
 Calls Tryz.prog 204 #[.agg #[.string ⟨d.toArray⟩,.bool (decide (d=wDEFB)),fv],v] w (PtRes (partP d l) w):=by
 have hpe:=fun W hr'=>exprParse_any l v W hr' hs (by omega)
 have HR:=Hh hr
 have hdif:¬ (l.length=1∧d=wDEFB∧(l.headD ⟨0,⟨#[]⟩,0,0⟩).kind=3∧(l.headD ⟨0,⟨#[]⟩,0,0⟩).text.size≠1)→partP d l=(⟨⟨#[]⟩,(parseR l).2⟩,(parseR l).1):=fun h=>by unfold partP; rw [if_neg h]
 have hyes:(l.length=1∧d=wDEFB∧(l.headD ⟨0,⟨#[]⟩,0,0⟩).kind=3∧(l.headD ⟨0,⟨#[]⟩,0,0⟩).text.size≠1)→partP d l=(⟨(l.headD ⟨0,⟨#[]⟩,0,0⟩).text,none⟩,0):=fun h=>by unfold partP; rw [if_pos h]
 generalize partP d l=R at *
 unfold ParseRes at hpe
 generalize hPR:parseR l=PR at *
 clear hPR
 obtain ⟨code,ox⟩:=PR
 dsimp only at hpe hdif
 have HPE:=Hh hpe; clear hpe
 by_cases hyn:l.length=1∧d=wDEFB∧(l.headD ⟨0,⟨#[]⟩,0,0⟩).kind=3∧(l.headD ⟨0,⟨#[]⟩,0,0⟩).text.size≠1
 · have HD:=Hh (hyes hyn)
   obtain ⟨h1,hd,hk,hz⟩:=hyn
   obtain ⟨t,rfl⟩:∃ t,l=[t]:=by
    match l,h1 with
    | [t],_=>exact ⟨t,rfl⟩
   have hdb:decide (d=wDEFB)=true:=decide_eq_true hd
   rw [hdb]
   obtain ⟨g,o,c,rfl,hc,hg,hcs,_⟩:=hr.tok2 (by simp)
   obtain ⟨e0,e1,_,_⟩:=hcs 0 t rfl
   rw [Nat.zero_mul,Nat.add_zero] at e0 e1
   dsimp only [List.headD] at hk hz HD
   rw [hk] at e0
   have hzi:((t.text.size:Int) != 1)=true:=by simp; omega
   generalize t.text=s at *
   clear hdif hyes hs hcs hdb hd hk hl hz h1 HPE hr HR
   go_enter Tryz.func204,Tryz.ntmps204
   go_wp2_with fail
   refine bodyPost_ret (v:=.tuple #[.agg #[.string s,.pointer none],.int .i64 0]) (by simp [results,Tryz.results204,go_sem, *]) rfl ?_
   rw [HD.out]
   exact ⟨none,rfl,rfl,bl⟩
 · have HD:=Hh (hdif hyn)
   have hsc:decide (d=wDEFB)=false∨(decide (d=wDEFB)=true∧((l.length:Int) == 1)=false)∨(∃ t,l=[t]∧decide (d=wDEFB)=true∧(t.kind == 3)=false)∨(∃ t,l=[t]∧decide (d=wDEFB)=true∧t.kind=3∧((t.text.size:Int) != 1)=false):=by
    by_cases hd:d=wDEFB
    · right
      rw [decide_eq_true hd]
      by_cases h1:l.length=1
      · right
        obtain ⟨t,rfl⟩:∃ t,l=[t]:=by
         match l,h1 with
         | [t],_=>exact ⟨t,rfl⟩
        by_cases hk:t.kind=3
        · right
          refine ⟨t,rfl,rfl,hk,?_⟩
          have:¬ t.text.size≠1:=fun hz=>hyn ⟨rfl,hd,hk,hz⟩
          simp; omega
        · left
          exact ⟨t,rfl,rfl,by simpa using hk⟩
      · left
        exact ⟨rfl,by simp; omega⟩
    · left
      exact decide_eq_false hd
   clear hdif hyes hyn hs
   rcases hsc with h0 | ⟨h0,h1⟩ | ⟨t,rfl,h0,h1⟩ | ⟨t,rfl,h0,h1,h2⟩<;>rw [h0]
   · obtain ⟨a,c,rfl,hlc,_⟩:=hr
     clear h0
     go_enter Tryz.func204,Tryz.ntmps204
     go_wp2_with fail
     (with_reducible refine (HPE.out _ (HR.out.below (bl))).mono ?_)
     rintro e w1 ⟨vt,rfl,ho,hb1⟩
     obtain ⟨p,rfl⟩:∃ p,vt=.pointer p:=by
      exact t114_1
     have HO:=Hh ho
     have hz4:=blk_below (blk_new (w.alloc (.cells #[.string ⟨d.toArray⟩,.bool false,fv] 136)) (.cells #[.string ⟨#[]⟩,.pointer none] 130)) hb1 (by simp)
     rw [World.size_alloc] at hz4
     have k0:=blk_cell hz4 0
     have k1:=blk_cell hz4 1
     have f0:=blk_frozen hz4 0
     have f1:=blk_frozen hz4 1
     have HBB:=Hh (Below.trans (show Below w.heap.size w ((w.alloc (.cells #[.string ⟨d.toArray⟩,.bool false,fv] 136)).alloc (.cells #[.string ⟨#[]⟩,.pointer none] 130)) from bl) (hb1.mono (by simp; omega)))
     have HZ:=Hh hz4
     clear ho hb1 hz4
     go_wp2_with fail
     refine bodyPost_ret (v:=.tuple #[.agg #[.string ⟨#[]⟩,.pointer p],.int .i64 code]) (by simp [results,Tryz.results204,go_sem, *]) rfl ?_
     rw [HD.out]
     refine ⟨p,rfl,?_,?_⟩
     · exact (HO.out.setBox HZ.out (by decide)).setBox (blk_set HZ.out) (by decide)
     · exact t114_0
   · obtain ⟨a,c,rfl,hlc,_⟩:=hr
     clear h0
     go_enter Tryz.func204,Tryz.ntmps204
     go_wp2_with fail
     (with_reducible refine (HPE.out _ (HR.out.below (bl))).mono ?_)
     rintro e w1 ⟨vt,rfl,ho,hb1⟩
     obtain ⟨p,rfl⟩:∃ p,vt=.pointer p:=by
      exact t114_1
     have HO:=Hh ho
     have hz4:=blk_below (blk_new (w.alloc (.cells #[.string ⟨d.toArray⟩,.bool true,fv] 136)) (.cells #[.string ⟨#[]⟩,.pointer none] 130)) hb1 (by simp)
     rw [World.size_alloc] at hz4
     have k0:=blk_cell hz4 0
     have k1:=blk_cell hz4 1
     have f0:=blk_frozen hz4 0
     have f1:=blk_frozen hz4 1
     have HBB:=Hh (Below.trans (show Below w.heap.size w ((w.alloc (.cells #[.string ⟨d.toArray⟩,.bool true,fv] 136)).alloc (.cells #[.string ⟨#[]⟩,.pointer none] 130)) from bl) (hb1.mono (by simp; omega)))
     have HZ:=Hh hz4
     clear ho hb1 hz4
     go_wp2_with fail
     refine bodyPost_ret (v:=.tuple #[.agg #[.string ⟨#[]⟩,.pointer p],.int .i64 code]) (by simp [results,Tryz.results204,go_sem, *]) rfl ?_
     rw [HD.out]
     refine ⟨p,rfl,?_,?_⟩
     · exact (HO.out.setBox HZ.out (by decide)).setBox (blk_set HZ.out) (by decide)
     · exact t114_0
   · obtain ⟨g,o,c,rfl,hc,hg,hcs,_⟩:=hr.tok2 (by simp)
     obtain ⟨e0,e1,_,_⟩:=hcs 0 t rfl
     rw [Nat.zero_mul,Nat.add_zero] at e0 e1
     rw [show [t].length=1 from rfl] at HPE HR
     clear h0 hcs hr
     go_enter Tryz.func204,Tryz.ntmps204
     go_wp2_with fail
     (with_reducible refine (HPE.out _ (HR.out.below (bl))).mono ?_)
     rintro e w1 ⟨vt,rfl,ho,hb1⟩
     obtain ⟨p,rfl⟩:∃ p,vt=.pointer p:=by
      exact t114_1
     have HO:=Hh ho
     have hz4:=blk_below (blk_new (w.alloc (.cells #[.string ⟨d.toArray⟩,.bool true,fv] 136)) (.cells #[.string ⟨#[]⟩,.pointer none] 130)) hb1 (by simp)
     rw [World.size_alloc] at hz4
     have k0:=blk_cell hz4 0
     have k1:=blk_cell hz4 1
     have f0:=blk_frozen hz4 0
     have f1:=blk_frozen hz4 1
     have HBB:=Hh (Below.trans (show Below w.heap.size w ((w.alloc (.cells #[.string ⟨d.toArray⟩,.bool true,fv] 136)).alloc (.cells #[.string ⟨#[]⟩,.pointer none] 130)) from bl) (hb1.mono (by simp; omega)))
     have HZ:=Hh hz4
     clear ho hb1 hz4
     go_wp2_with fail
     refine bodyPost_ret (v:=.tuple #[.agg #[.string ⟨#[]⟩,.pointer p],.int .i64 code]) (by simp [results,Tryz.results204,go_sem, *]) rfl ?_
     rw [HD.out]
     refine ⟨p,rfl,?_,?_⟩
     · exact (HO.out.setBox HZ.out (by decide)).setBox (blk_set HZ.out) (by decide)
     · exact t114_0
   · obtain ⟨g,o,c,rfl,hc,hg,hcs,_⟩:=hr.tok2 (by simp)
     obtain ⟨e0,e1,_,_⟩:=hcs 0 t rfl
     rw [Nat.zero_mul,Nat.add_zero] at e0 e1
     rw [h1] at e0
     rw [show [t].length=1 from rfl] at HPE HR
     clear h0 hcs hr
     go_enter Tryz.func204,Tryz.ntmps204
     go_wp2_with fail
     (with_reducible refine (HPE.out _ (HR.out.below (bl))).mono ?_)
     rintro e w1 ⟨vt,rfl,ho,hb1⟩
     obtain ⟨p,rfl⟩:∃ p,vt=.pointer p:=by
      exact t114_1
     have HO:=Hh ho
     have hz4:=blk_below (blk_new (w.alloc (.cells #[.string ⟨d.toArray⟩,.bool true,fv] 136)) (.cells #[.string ⟨#[]⟩,.pointer none] 130)) hb1 (by simp)
     rw [World.size_alloc] at hz4
     have k0:=blk_cell hz4 0
     have k1:=blk_cell hz4 1
     have f0:=blk_frozen hz4 0
     have f1:=blk_frozen hz4 1
     have HBB:=Hh (Below.trans (show Below w.heap.size w ((w.alloc (.cells #[.string ⟨d.toArray⟩,.bool true,fv] 136)).alloc (.cells #[.string ⟨#[]⟩,.pointer none] 130)) from bl) (hb1.mono (by simp; omega)))
     have HZ:=Hh hz4
     clear ho hb1 hz4
     go_wp2_with fail
     refine bodyPost_ret (v:=.tuple #[.agg #[.string ⟨#[]⟩,.pointer p],.int .i64 code]) (by simp [results,Tryz.results204,go_sem, *]) rfl ?_
     rw [HD.out]
     refine ⟨p,rfl,?_,?_⟩
     · exact (HO.out.setBox HZ.out (by decide)).setBox (blk_set HZ.out) (by decide)
     · exact t114_0
def LP (w:World) (b:Nat) (l:List Tok) (lab op:ByteArray) (va vp:Value):Prop :=
 ∃ a cap,w.heap[b]? = some (.cells #[.slice a l.length cap,.string lab,.string op,va,vp] 118 (0,0))∧Row w (.slice a l.length cap) l.length (tokc l)∧(l≠[]→∀ g o,a=some ⟨g,o,none⟩→g≠b)
theorem LP.lt {w:World} {b:Nat} {l:List Tok} {lab op:ByteArray} {va vp:Value} (h:LP w b l lab op va vp):b<w.heap.size:=by
 obtain ⟨a,cap,h,_⟩:=h; exact blk_lt h
theorem LP.below {w w':World} {b:Nat} {l:List Tok} {lab op:ByteArray} {va vp:Value} (h:LP w b l lab op va vp) (hb:Below w.heap.size w w'):LP w' b l lab op va vp:=by
 obtain ⟨a,cap,h1,h2,h3⟩:=h
 exact ⟨a,cap,blk_below h1 hb (blk_lt h1),h2.below hb,h3⟩
theorem Row.blocks {w w':World} {v:Value} {n:Nat} {cs:List Value} (h:Row w v n cs) (hs:w.heap.size≤w'.heap.size) (hk:∀ g o c,v=.slice (some ⟨g,o,none⟩) n c→cs≠[]→g<w.heap.size→w'.heap[g]? = w.heap[g]?):Row w' v n cs:=by
 obtain ⟨a,cap,hv,hn,hc⟩:=h
 refine ⟨a,cap,hv,hn,fun hne=>?_⟩
 obtain ⟨g,o,ha,hg,hcs⟩:=hc hne
 have hblk:=hk g o cap (by rw [hv,ha]) hne hg
 exact ⟨g,o,ha,Nat.lt_of_lt_of_le hg hs,fun j hj=>(World.cell?_of_block (w:=w) (a:=⟨g,o+j,none⟩) hblk).trans (hcs j hj)⟩
theorem tokc_ne {l:List Tok} (h:tokc l≠[]):l≠[]:=fun e=>h (by rw [e]; rfl)
theorem LP.cells {w:World} {b:Nat} {l:List Tok} {lab op:ByteArray} {va vp:Value} (h:LP w b l lab op va vp):∃ a cap,w.cell? ⟨b,0,none⟩=some (.slice a l.length cap)∧w.cell? ⟨b,1,none⟩=some (.string lab)∧w.cell? ⟨b,2,none⟩=some (.string op)∧w.cell? ⟨b,3,none⟩=some va∧w.cell? ⟨b,4,none⟩=some vp∧(∀ i,w.frozen? ⟨b,i,none⟩=false)∧l.length≤cap∧Row w (.slice a l.length cap) l.length (tokc l):=by
 obtain ⟨a,cap,h1,h2,h3⟩:=h
 obtain ⟨a',c',hv,hn,_⟩:=id h2
 cases hv
 exact ⟨a,cap,blk_cell h1 0,blk_cell h1 1,blk_cell h1 2,blk_cell h1 3,blk_cell h1 4,blk_frozen h1,hn,h2⟩
theorem LP.row_set {w:World} {b i:Nat} {l:List Tok} {a:Option Addr} {cap:Nat} (h2:Row w (.slice a l.length cap) l.length (tokc l)) (h3:l≠[]→∀ g o,a=some ⟨g,o,none⟩→g≠b) (v:Value):Row (w.setCell ⟨b,i,none⟩ v) (.slice a l.length cap) l.length (tokc l) :=
 h2.blocks (by show _≤(w.heap.modify _ _).size; rw [Array.size_modify]; exact Nat.le_refl _) fun g o c hv hne _=>Below.heap_setCell w ⟨b,i,none⟩ v g (h3 (tokc_ne hne) g o (by cases hv; rfl))
theorem LP.setLab {w:World} {b:Nat} {l:List Tok} {lab op:ByteArray} {va vp:Value} (h:LP w b l lab op va vp) (s:ByteArray):LP (w.setCell ⟨b,1,none⟩ (.string s)) b l s op va vp:=by
 obtain ⟨a,cap,h1,h2,h3⟩:=h
 exact ⟨a,cap,blk_set h1,LP.row_set h2 h3 _,h3⟩
theorem LP.setOp {w:World} {b:Nat} {l:List Tok} {lab op:ByteArray} {va vp:Value} (h:LP w b l lab op va vp) (s:ByteArray):LP (w.setCell ⟨b,2,none⟩ (.string s)) b l lab s va vp:=by
 obtain ⟨a,cap,h1,h2,h3⟩:=h
 exact ⟨a,cap,blk_set h1,LP.row_set h2 h3 _,h3⟩
theorem LP.setArgs {w:World} {b:Nat} {l:List Tok} {lab op:ByteArray} {va vp:Value} (h:LP w b l lab op va vp) (s:Value):LP (w.setCell ⟨b,3,none⟩ s) b l lab op s vp:=by
 obtain ⟨a,cap,h1,h2,h3⟩:=h
 exact ⟨a,cap,blk_set h1,LP.row_set h2 h3 _,h3⟩
theorem LP.kb {w w':World} {b c:Nat} {l:List Tok} {lab op:ByteArray} {va vp:Value} (h:LP w b l lab op va vp) (hb:Kb c w w') (hne:b≠c) (hg:∀ g o k n,w.cell? ⟨b,0,none⟩=some (.slice (some ⟨g,o,none⟩) n k)→g≠c):LP w' b l lab op va vp:=by
 obtain ⟨a,cap,h1,h2,h3⟩:=h
 have hc:=blk_cell h1 0
 exact ⟨a,cap,(hb.block b (blk_lt h1) hne).trans h1,h2.blocks hb.size (fun g o c' hv _ hlt=>hb.block g hlt (hg g o cap l.length (by rw [hc]; cases hv; rfl))),h3⟩
theorem LP.drop {w:World} {b n:Nat} {l:List Tok} {lab op:ByteArray} {va vp:Value} {g o cap:Nat} (h:LP w b l lab op va vp) (hv:w.cell? ⟨b,0,none⟩=some (.slice (some ⟨g,o,none⟩) l.length cap)) (hn:n≤l.length) (hl:l≠[]) (a':Option Addr) (ha:n<l.length→a'=some ⟨g,o+n * 4,none⟩) :
 LP (w.setCell ⟨b,0,none⟩ (.slice a' (l.drop n).length (cap - n))) b (l.drop n) lab op va vp:=by
 obtain ⟨a,cap',h1,h2,h3⟩:=h
 have hv':=(blk_cell h1 0).symm.trans hv
 have e:a=some ⟨g,o,none⟩∧cap'=cap:=by simpa using hv'
 obtain ⟨rfl,rfl⟩:=e
 have hgb:=h3 hl g o rfl
 obtain ⟨g',o',cap2,hv2,hcap,hg,_,hsub⟩:=h2.tok2 hl
 cases hv2
 have hlen:(l.drop n).length=l.length - n:=List.length_drop
 refine ⟨a',cap' - n,blk_set h1,?_,fun hne g2 o2 ha2=>?_⟩
 · have hr:=hsub n l.length a' (cap' - n) hn (Nat.le_refl _) ha (by omega)
   rw [List.take_length] at hr
   rw [hlen]
   rw [hlen] at hr
   refine hr.blocks (by show _≤(w.heap.modify _ _).size; rw [Array.size_modify]; exact Nat.le_refl _) fun g2 o2 c2 hv2 hne2 _=>Below.heap_setCell w ⟨b,0,none⟩ _ g2 ?_
   have hlt:n<l.length:=by
    rcases Nat.lt_or_ge n l.length with h | h
    · exact h
    · exact absurd (List.drop_eq_nil_of_le h) (tokc_ne hne2)
   have:=ha hlt
   cases hv2
   cases this
   exact hgb
 · have hlt:n<l.length:=by
    rcases Nat.lt_or_ge n l.length with h | h
    · exact h
    · exact absurd (List.drop_eq_nil_of_le h) hne
   have:=ha hlt
   rw [this] at ha2
   cases ha2
   exact hgb
set_option maxHeartbeats 1000000 in
theorem lkind_any (i:Nat) (k:Int) (hk:k=(i:Int)) (l:List Tok) (lab op:ByteArray) (va vp:Value) (b:Nat) (w:World) (h:LP w b l lab op va vp) (hl:l.length≤1000000) (hi:i≤1000) :
 Calls Tryz.prog 126 #[.pointer (some ⟨b,0,none⟩),.int .i64 k] w fun e w'=>e=.returned (.int .i64 ((l[i]?.map Tok.kind).getD 0))∧Below w.heap.size w w':=by
 subst hk
 obtain ⟨a,cap,h0,_,_,_,_,_,hcap,hr⟩:=h.cells
 have hb:=h.lt
 clear h
 obtain ⟨R,hR⟩:∃ R,(l[i]?.map Tok.kind).getD 0=R:=⟨_,rfl⟩
 rw [hR]
 by_cases hlt:i<l.length
 · have hx:l[i]? = some l[i]:=List.getElem?_eq_getElem hlt
   generalize l[i]=x at hx
   rw [hx] at hR
   obtain ⟨g,o,cap2,hv2,_,hg,hcs,_⟩:=hr.tok2 (by rintro rfl; simp at hlt)
   cases hv2
   obtain ⟨e0,e1,e2,e3⟩:=hcs i x hx
   have hR:x.kind=R:=hR
   rw [hR] at e0
   have hi0:(i:Int)<(l.length:Int):=by omega
   have hi1:(0:Int)≤(i:Int):=by omega
   clear hr hcs e1 e2 e3 hR hx
   go_enter Tryz.func126,Tryz.ntmps126
   go_wp2_with fail
   go_ret
   exact ⟨rfl,bl⟩
 · rw [List.getElem?_eq_none (by omega)] at hR
   have hR:R=0:=hR.symm
   subst hR
   have hi0:¬ (i:Int)<(l.length:Int):=by omega
   clear hr
   go_enter Tryz.func126,Tryz.ntmps126
   go_wp2_with fail
   go_ret
   exact ⟨rfl,bl⟩
def isAt (l:List Tok) (i:Nat) (c:UInt8):Bool:=match l[i]? with | some t=>signIs t [c] | none=>false
set_option maxHeartbeats 1000000 in
theorem lis_any (i:Nat) (k:Int) (hk:k=(i:Int)) (c:UInt8) (l:List Tok) (lab op:ByteArray) (va vp:Value) (b:Nat) (w:World) (h:LP w b l lab op va vp) (hl:l.length≤1000000) (hi:i≤1000) :
 Calls Tryz.prog 124 #[.pointer (some ⟨b,0,none⟩),.int .i64 k,.string ⟨#[c]⟩] w fun e w'=>e=.returned (.bool (isAt l i c))∧Below w.heap.size w w':=by
 subst hk
 obtain ⟨a,cap,h0,_,_,_,_,_,hcap,hr⟩:=h.cells
 have hb:=h.lt
 clear h
 obtain ⟨R,hR⟩:∃ R,isAt l i c=R:=⟨_,rfl⟩
 rw [hR]
 unfold isAt at hR
 by_cases hlt:i<l.length
 · have hx:l[i]? = some l[i]:=List.getElem?_eq_getElem hlt
   generalize l[i]=x at hx
   rw [hx] at hR
   dsimp only at hR
   obtain ⟨k,s,n,t0⟩:=x
   have his:=fun b' W h'=>is1_any k s n t0 c b' W h'
   rw [hR] at his
   have HIS:=Hh his
   obtain ⟨g,o,cap2,hv2,_,hg,hcs,_⟩:=hr.tok2 (by rintro rfl; simp at hlt)
   cases hv2
   obtain ⟨e0,e1,e2,e3⟩:=hcs i _ hx
   dsimp only at e0 e1 e2 e3
   have hi0:(i:Int)<(l.length:Int):=by omega
   have hi1:(0:Int)≤(i:Int):=by omega
   clear hr hcs hR hx his
   go_enter Tryz.func124,Tryz.ntmps124
   go_wp2_with fail
   (with_reducible refine (HIS.out _ _ (by first | assumption | (simp [go_sem]; done) | (apply new_at; simp [go_sem]))).mono ?_)
   rintro e w1 ⟨rfl,hb1⟩
   obtain ⟨p1,rfl⟩:=gw_of_below hb1
   clear hb1
   go_wp2_with fail
   go_ret
   exact ⟨rfl,bl⟩
 · rw [List.getElem?_eq_none (by omega)] at hR
   have hR:R=false:=hR.symm
   subst hR
   have hi0:¬ (i:Int)<(l.length:Int):=by omega
   clear hr
   go_enter Tryz.func124,Tryz.ntmps124
   go_wp2_with fail
   go_ret
   exact ⟨rfl,bl⟩
theorem t115_0 {p:Prop} (h:p:=by
 subst hcc
 obtain rfl:k=0:=by omega
 go_enter Tryz.func125,Tryz.ntmps125
 go_wp2_with fail
 refine bodyPost_ret (v:=.string x.text) (by simp [results,Tryz.results125,go_sem, *]) rfl ⟨rfl,?_,kbq⟩
 exact (HD.out (some ⟨g,o,none⟩) (fun h=>by omega))):p:=h
set_option maxHeartbeats 1000000 in
theorem ltake_any (n:Nat) (k:Int) (hk:k=(n:Int)) (hn:n=1∨n=2) (x:Tok) (l:List Tok) (hx:l[0]? = some x) (lab op:ByteArray) (va vp:Value) (b:Nat) (w:World) (h:LP w b l lab op va vp) (hl:n≤l.length) (hll:l.length≤1000000) :
 Calls Tryz.prog 125 #[.pointer (some ⟨b,0,none⟩),.int .i64 k] w fun e w'=>e=.returned (.string x.text)∧LP w' b (l.drop n) lab op va vp∧Kb b w w':=by
 subst hk
 obtain ⟨a,cap,h0,_,_,_,_,hfz,hcap,hr⟩:=h.cells
 have hb:=h.lt
 have hne:l≠[]:=by rintro rfl; simp at hx
 obtain ⟨g,o,cap2,hv2,_,hg,hcs,_⟩:=hr.tok2 hne
 cases hv2
 obtain ⟨_,e1,_,_⟩:=hcs 0 x hx
 rw [Nat.zero_mul,Nat.add_zero] at e1
 have hfz0:=hfz 0
 have HS:=Hh h
 have hgb:g≠b:=by
  obtain ⟨a,cap',h1,_,h3⟩:=h
  have hv':=(blk_cell h1 0).symm.trans h0
  have e:a=some ⟨g,o,none⟩:=by simpa using (And.left (by simpa using hv':_∧_))
  exact h3 hne g o e
 have hlen:(l.drop n).length=l.length - n:=List.length_drop
 have hp:(0:Int)<(l.length:Int):=by have:=List.length_pos_iff.2 hne; omega
 have hdrop:=fun a' ha=>HS.out.drop h0 hl hne a' ha
 rw [hlen] at hdrop
 obtain ⟨k,hk⟩:∃ k,l.length=k+n:=⟨l.length - n,by omega⟩
 obtain ⟨c,hc⟩:∃ c,cap=c+n:=⟨cap - n,by omega⟩
 subst hc
 have hkc:k≤c:=by omega
 rw [hk,Nat.add_sub_cancel,Nat.add_sub_cancel] at hdrop
 have HD:=Hh hdrop
 rw [hk] at h0
 obtain ⟨L',hL'⟩:∃ L',l.drop n=L':=⟨_,rfl⟩
 rw [hL'] at HD ⊢
 have hk6:(k:Int)≤1000000:=by omega
 clear hr hcs h hdrop hfz hlen hx hL' hp hl hll hne HS hk hcap
 rcases hn with rfl | rfl
 · have h01:(0:Int)<(k:Int)+1:=by omega
   have h11:(1:Int)≤(k:Int)+1:=by omega
   have h12:(k:Int)+1≤(c:Int)+1:=by omega
   by_cases hcc:c=0
   · exact t115_0
   · have hcc':(1:Int)<(c:Int)+1:=by omega
     go_enter Tryz.func125,Tryz.ntmps125
     go_wp2_with fail
     refine bodyPost_ret (v:=.string x.text) (by simp [results,Tryz.results125,go_sem, *]) rfl ⟨rfl,?_,kbq⟩
     exact (HD.out (some ⟨g,o+4,none⟩) (fun h=>rfl))
 · have h01:(0:Int)<(k:Int)+2:=by omega
   have h11:(2:Int)≤(k:Int)+2:=by omega
   have h12:(k:Int)+2≤(c:Int)+2:=by omega
   by_cases hcc:c=0
   · exact t115_0
   · have hcc':(2:Int)<(c:Int)+2:=by omega
     go_enter Tryz.func125,Tryz.ntmps125
     go_wp2_with fail
     refine bodyPost_ret (v:=.string x.text) (by simp [results,Tryz.results125,go_sem, *]) rfl ⟨rfl,?_,kbq⟩
     exact (HD.out (some ⟨g,o+8,none⟩) (fun h=>rfl))
theorem colonP_at (t:Tok) (r:List Tok):isAt (t::r) 1 58=colonP r:=by
 cases r<;>rfl
theorem LP.text {w:World} {b:Nat} {t:Tok} {r:List Tok} {lab op:ByteArray} {va vp:Value} (h:LP w b (t::r) lab op va vp):∃ g o cap,w.cell? ⟨b,0,none⟩=some (.slice (some ⟨g,o,none⟩) (r.length+1) cap)∧g<w.heap.size∧w.cell? ⟨g,o+1,none⟩=some (.string t.text):=by
 obtain ⟨a,cap,h0,_,_,_,_,_,_,hr⟩:=h.cells
 obtain ⟨g,o,cap2,hv2,_,hg,hcs,_⟩:=hr.tok2 (by simp)
 cases hv2
 obtain ⟨_,e1,_,_⟩:=hcs 0 t rfl
 rw [Nat.zero_mul,Nat.add_zero] at e1
 exact ⟨g,o,cap,h0,hg,e1⟩
def LabRes (b:Nat) (l:List Tok) (lab op:ByteArray) (va vp:Value) (code:Int) (w:World) (e:Ending) (w':World):Prop:=e=.returned (.int .i64 code)∧LP w' b l lab op va vp∧Kb b w w'
set_option maxHeartbeats 2000000 in
set_option maxRecDepth 100000 in
theorem lineLabel_any (l:List Tok) (op:ByteArray) (va vp:Value) (b:Nat) (w:World) (hT:∀ W,Kb b w W→TabsA W) (h:LP w b l ⟨#[]⟩ op va vp) (hs:∀ t∈l,t.text.size≤1000000) (hl:l.length≤100000) :
 Calls Tryz.prog 123 #[.pointer (some ⟨b,0,none⟩)] w (LabRes b (l.drop (labelP l).2) (labelP l).1 op va vp (if 0<(labelP l).2∧resvW (labelP l).1=true then 21 else 0) w):=by
 obtain ⟨LL,hLL⟩:∃ x,labelP l=x:=⟨_,rfl⟩
 obtain ⟨C,hC⟩:∃ C:Int,(if 0<(labelP l).2∧resvW (labelP l).1=true then 21 else 0)=C:=⟨_,rfl⟩
 rw [hC,hLL]
 rw [hLL] at hC
 obtain ⟨lab,n⟩:=LL
 dsimp only at hC ⊢
 have hkd:=fun W (hp:LP W b l ⟨#[]⟩ op va vp)=>lkind_any 0 0 rfl l _ _ _ _ b W hp (by omega) (by omega)
 have hlt:=h.lt
 have HT:=Hh hT; clear hT
 by_cases hk:(l[0]?.map Tok.kind).getD 0=1
 · obtain ⟨t,r,rfl⟩:∃ t r,l=t::r:=by
    cases l with
    | nil=>simp at hk
    | cons t r=>exact ⟨t,r,rfl⟩
   have hk1:t.kind=1:=hk
   have hts:=hs t List.mem_cons_self
   have hrl:r.length+1≤100000:=hl
   have hz:LP w b (t::r) ⟨#[]⟩ op va vp:=h
   rw [hk] at hkd
   have his:=fun W (hp:LP W b (t::r) ⟨#[]⟩ op va vp)=>lis_any 1 1 rfl 58 (t::r) _ _ _ _ b W hp (by simp; omega) (by omega)
   rw [colonP_at] at his
   by_cases hc:colonP r=true
   · -- a colon behind the word
     have hlab:labelP (t::r)=(t.text,2):=by unfold labelP; simp [hk1,hc]
     obtain ⟨rfl,rfl⟩:=Prod.mk.inj (hLL.symm.trans hlab)
     rw [hc] at his
     obtain ⟨u,q,rfl⟩:∃ u q,r=u::q:=by
      cases r with
      | nil=>simp [colonP] at hc
      | cons u q=>exact ⟨u,q,rfl⟩
     have htk:=fun W (hp:LP W b (t::u::q) ⟨#[]⟩ op va vp)=>ltake_any 2 2 rfl (.inr rfl) t (t::u::q) rfl _ _ _ _ b W hp (by simp) (by simp at hrl ⊢; omega)
     have hrs:=fun W (hb:Kb b w W)=>lineReserved_any t.text W (HT.out W hb) hts
     obtain ⟨R,hR⟩:∃ R,resvW t.text=R:=⟨_,rfl⟩
     rw [hR] at hrs hC
     have hd2:(t::u::q).drop 2=q:=rfl
     rw [hd2] at htk ⊢
     generalize t.text=s at *
     have HKD:=Hh hkd; have HIS:=Hh his; have HTK:=Hh htk; have HRS:=Hh hrs; have HL:=Hh h; have HC:=Hh hC
     clear hkd his htk hrs h hz hk hc hs hl hrl hlab hR hk1 hd2 hC hLL
     go_enter Tryz.func123,Tryz.ntmps123
     go_wp2_with fail
     (with_reducible refine (HKD.out _ HL.out).mono ?_)
     rintro e w1 ⟨rfl,hb1⟩
     have HL1:=Hh (HL.out.below hb1); have HK1:=Hh (Kb.of_below (b:=b) hb1); clear hb1
     go_wp2_with fail
     (with_reducible refine (HIS.out _ HL1.out).mono ?_)
     rintro e w2 ⟨rfl,hb2⟩
     have HL2:=Hh (HL1.out.below hb2); have HK2:=Hh (HK1.out.trans (Kb.of_below (b:=b) hb2)); clear hb2
     go_wp2_with fail
     (with_reducible refine (HTK.out _ HL2.out).mono ?_)
     rintro e w3 ⟨rfl,hl3,hk3⟩
     have HL3:=Hh (hl3.setLab s); have HK3:=Hh ((HK2.out.trans hk3).setCell 1 (.string s))
     obtain ⟨_,_,_,c1,_,_,_,hf,_,_⟩:=hl3.cells
     have hf1:=hf 1
     have hlt3:=hl3.lt
     clear hl3 hk3 hf
     go_wp2_with fail
     (with_reducible refine (HRS.out _ HK3.out).mono ?_)
     rintro e w4 ⟨rfl,hb4⟩
     have HL4:=Hh (HL3.out.below hb4); have HK4:=Hh (HK3.out.trans (Kb.of_below (b:=b) hb4)); clear hb4
     cases R with
     | true =>
       go_wp2_with fail
       go_ret
       exact ⟨by rw [←HC.out]; rfl,HL4.out,HK4.out⟩
     | false =>
       go_wp2_with fail
       go_ret
       exact ⟨by rw [←HC.out]; rfl,HL4.out,HK4.out⟩
   · have hc:colonP r=false:=by simpa using hc
     rw [hc] at his
     have hop:=fun W (hb:Kb b w W)=>operation_any t.text W (HT.out W hb) (by unfold maxLen; omega)
     have hlab:labelP (t::r)=if operP t.text=true then (⟨#[]⟩,0) else (t.text,1):=by unfold labelP; simp [hk1,hc]
     have htx:=fun W (hp:LP W b (t::r) ⟨#[]⟩ op va vp)=>hp.text
     have hri:(0:Int)<(r.length:Int)+1:=by omega
     by_cases hO:operP t.text=true
     · rw [if_pos hO] at hlab
       obtain ⟨rfl,rfl⟩:=Prod.mk.inj (hLL.symm.trans hlab)
       rw [hO] at hop
       rw [if_neg (fun h=>absurd h.1 (Nat.lt_irrefl 0))] at hC
       subst hC
       generalize t.text=s at *
       have HKD:=Hh hkd; have HIS:=Hh his; have HL:=Hh h; have HOP:=Hh hop; have HTX:=Hh htx
       clear hkd his h hz hk hc hs hl hrl hlab hk1 hop htx hO hLL
       go_enter Tryz.func123,Tryz.ntmps123
       go_wp2_with fail
       (with_reducible refine (HKD.out _ HL.out).mono ?_)
       rintro e w1 ⟨rfl,hb1⟩
       have HL1:=Hh (HL.out.below hb1); have HK1:=Hh (Kb.of_below (b:=b) hb1); clear hb1
       go_wp2_with fail
       (with_reducible refine (HIS.out _ HL1.out).mono ?_)
       rintro e w2 ⟨rfl,hb2⟩
       have HL2:=Hh (HL1.out.below hb2); have HK2:=Hh (HK1.out.trans (Kb.of_below (b:=b) hb2)); clear hb2
       obtain ⟨g,o,cap,q0,qg,q1⟩:=HTX.out _ HL2.out
       go_wp2_with fail
       (with_reducible refine (HOP.out _ HK2.out).mono ?_)
       rintro e w3 ⟨rfl,hb3⟩
       have HL3:=Hh (HL2.out.below hb3); have HK3:=Hh (HK2.out.trans (Kb.of_below (b:=b) hb3)); clear hb3 q0 q1 qg
       go_wp2_with fail
       go_ret
       exact ⟨rfl,HL3.out,HK3.out⟩
     · rw [if_neg hO] at hlab
       obtain ⟨rfl,rfl⟩:=Prod.mk.inj (hLL.symm.trans hlab)
       have hO:operP t.text=false:=by simpa using hO
       rw [hO] at hop
       have htk:=fun W (hp:LP W b (t::r) ⟨#[]⟩ op va vp)=>ltake_any 1 1 rfl (.inl rfl) t (t::r) rfl _ _ _ _ b W hp (by simp) (by simp; omega)
       have hrs:=fun W (hb:Kb b w W)=>lineReserved_any t.text W (HT.out W hb) hts
       obtain ⟨R,hR⟩:∃ R,resvW t.text=R:=⟨_,rfl⟩
       rw [hR] at hrs hC
       have hd1:(t::r).drop 1=r:=rfl
       rw [hd1] at htk ⊢
       generalize t.text=s at *
       have HKD:=Hh hkd; have HIS:=Hh his; have HTK:=Hh htk; have HRS:=Hh hrs; have HL:=Hh h; have HOP:=Hh hop; have HTX:=Hh htx; have HC:=Hh hC
       clear hkd his htk hrs h hz hk hc hs hl hrl hlab hR hk1 hop htx hO hC hLL hd1
       go_enter Tryz.func123,Tryz.ntmps123
       go_wp2_with fail
       (with_reducible refine (HKD.out _ HL.out).mono ?_)
       rintro e w1 ⟨rfl,hb1⟩
       have HL1:=Hh (HL.out.below hb1); have HK1:=Hh (Kb.of_below (b:=b) hb1); clear hb1
       go_wp2_with fail
       (with_reducible refine (HIS.out _ HL1.out).mono ?_)
       rintro e w2 ⟨rfl,hb2⟩
       have HL2:=Hh (HL1.out.below hb2); have HK2:=Hh (HK1.out.trans (Kb.of_below (b:=b) hb2)); clear hb2
       obtain ⟨g,o,cap,q0,qg,q1⟩:=HTX.out _ HL2.out
       go_wp2_with fail
       (with_reducible refine (HOP.out _ HK2.out).mono ?_)
       rintro e w3 ⟨rfl,hb3⟩
       have HL3:=Hh (HL2.out.below hb3); have HK3:=Hh (HK2.out.trans (Kb.of_below (b:=b) hb3)); clear hb3 q0 q1 qg
       go_wp2_with fail
       (with_reducible refine (HTK.out _ HL3.out).mono ?_)
       rintro e w4 ⟨rfl,hl4,hk4⟩
       have HL4:=Hh (hl4.setLab s); have HK4:=Hh ((HK3.out.trans hk4).setCell 1 (.string s))
       obtain ⟨_,_,_,c1,_,_,_,hf,_,_⟩:=hl4.cells
       have hf1:=hf 1
       have hlt4:=hl4.lt
       clear hl4 hk4 hf
       go_wp2_with fail
       (with_reducible refine (HRS.out _ HK4.out).mono ?_)
       rintro e w5 ⟨rfl,hb5⟩
       have HL5:=Hh (HL4.out.below hb5); have HK5:=Hh (HK4.out.trans (Kb.of_below (b:=b) hb5)); clear hb5
       cases R with
       | true =>
         go_wp2_with fail
         go_ret
         exact ⟨by rw [←HC.out]; rfl,HL5.out,HK5.out⟩
       | false =>
         go_wp2_with fail
         go_ret
         exact ⟨by rw [←HC.out]; rfl,HL5.out,HK5.out⟩
 · have hlab:labelP l=(⟨#[]⟩,0):=by
    cases l with
    | nil=>rfl
    | cons t r =>
      have hk':¬ t.kind=1:=hk
      unfold labelP; simp [hk']
   obtain ⟨rfl,rfl⟩:=Prod.mk.inj (hLL.symm.trans hlab)
   rw [if_neg (fun h=>absurd h.1 (Nat.lt_irrefl 0))] at hC
   subst hC
   rw [List.drop_zero]
   generalize (l[0]?.map Tok.kind).getD 0=k at hk hkd
   have hne:(k != 1)=true:=by simpa using hk
   have HKD:=Hh hkd; have HL:=Hh h
   clear hkd h hs hl hlab hLL
   go_enter Tryz.func123,Tryz.ntmps123
   go_wp2_with fail
   (with_reducible refine (HKD.out _ HL.out).mono ?_)
   rintro e w1 ⟨rfl,hb1⟩
   have HL1:=Hh (HL.out.below hb1); have HK1:=Hh (Kb.of_below (b:=b) hb1); clear hb1
   go_wp2_with fail
   go_ret
   exact ⟨rfl,HL1.out,HK1.out⟩
end Go.Proofs.YtkldoojonnkfgaaGreatDoor
