/- Joined texts: RegT, IsT. -/
import Derived.Test.YtkldoojonnkfgaaGreatDoorB16
import Derived.Test.YtkldoojonnkfgaaGreatDoorB26
namespace Go.Proofs.YtkldoojonnkfgaaGreatDoor
open Go.RowKit Go.Sort
theorem regGo_step {l:List Op3} {j:Nat} {o:Op3} (h:l[j]? = some o):regGo (l.drop j)=if o.1=3∧opValid 4 o.2.1 0=true then some o.2.1 else regGo (l.drop (j+1)):=by
 obtain ⟨h1,h2⟩:=List.getElem?_eq_some_iff.1 h
 rw [List.drop_eq_getElem_cons h1,h2]
 rfl
def regT (o:Option Int):Value:=match o with | some r=>.tuple #[.int .i64 r,.bool true] | none=>.tuple #[.int .i64 0,.bool false]
set_option maxRecDepth 100000 in
set_option maxHeartbeats 2000000 in
theorem argReg_any (s:ByteArray) (w:World) (hs:s.size≤maxLen) :
 Calls Tryz.prog 181 #[.string s] w fun e w'=>e=.returned (regT (regP s))∧Below w.heap.size w w':=by
 by_cases hc:s.toList=[67]
 · have hp:regP s=some 8:=by unfold regP; rw [if_pos hc]
   rw [hp]
   have hc1:(s.toList == [67])=true:=by rw [hc]; rfl
   have HC:=Hh hc; clear hc hp
   go_enter Tryz.func181,Tryz.ntmps181
   go_wp2_with fail
   refine bodyPost_ret (v:=regT (some 8)) (by simp [results,Tryz.results181,go_sem,regT]) rfl ⟨rfl,Below.refl _ _⟩
 · have hp:regP s=regGo (namedO s):=by unfold regP; rw [if_neg hc]
   rw [hp]
   have hc1:(s.toList == [67])=false:=by simpa using hc
   have hnm:=fun X=>namedO_any s X hs
   have hlen:=namedO_len s
   obtain ⟨L,hL⟩:∃ L,namedO s=L:=⟨_,rfl⟩
   rw [hL] at hnm hlen ⊢
   obtain ⟨R,hR⟩:∃ R,regGo L=R:=⟨_,rfl⟩
   rw [hR]
   have HNM:=Hh hnm; have HRR:=Hh hR
   clear hnm hc hp hL hR
   go_enter Tryz.func181,Tryz.ntmps181
   go_wp2_with fail
   refine (HNM.out _).mono ?_
   rintro e w1 ⟨v,rfl,hrow,hb1⟩
   have HROW:=Hh hrow
   have HB1:=Hh hb1
   obtain ⟨a,c,rfl,hcc,_⟩:=hrow
   clear hb1
   go_wp2_with fail
   go_loopw [12] (fun i wr=>∃ j:Nat,j≤L.length∧i=.int .i64 j∧Hid (Below w.heap.size w wr)∧Hid (Row wr (.slice a L.length c) L.length (opc L))∧Hid (R=regGo (L.drop j))) (fun i _=>L.length - (intOf i).toNat)
   case atStart=>exact ⟨0,Nat.zero_le _,rfl,HB1,HROW,Hh (by rw [List.drop_zero]; exact HRR.out.symm)⟩
   case round =>
    obtain ⟨j,hj,rfl,HB,HR,HG⟩:=hrel
    by_cases hlt:j<L.length
    · obtain ⟨o,ho⟩:∃ o,L[j]? = some o:=⟨_,List.getElem?_eq_getElem hlt⟩
      obtain ⟨_,_,hv,_,hh⟩:=HR.out.op
      cases hv
      obtain ⟨g,off,rfl,hg,hh⟩:=hh (by rintro rfl; exact absurd hlt (Nat.not_lt_zero _))
      obtain ⟨k0,k1,k2⟩:=hh j o ho
      have hstep:=HG.out.trans (regGo_step ho)
      have hval:=fun X=>valid_any 4 o.2.1 0 X
      obtain ⟨q,hq⟩:∃ q,opValid 4 o.2.1 0=q:=⟨_,rfl⟩
      rw [hq] at hval hstep
      have HV:=Hh hval; have HSTEP:=Hh hstep
      have hi0:(0:Int)≤(j:Int):=by omega
      have hi1:(j:Int)<(L.length:Int):=by omega
      clear hh hval hstep hq ho
      obtain ⟨x0,x1,x2⟩:=o
      dsimp only at k0 k1 k2 HV HSTEP
      by_cases h3:x0=3
      · subst h3
        cases q with
        | true =>
          have hst:=HSTEP.out
          rw [if_pos ⟨rfl,rfl⟩] at hst
          have HST:=Hh hst; clear hst
          go_wp2_with fail
          refine (HV.out _).mono ?_
          rintro e w2 ⟨rfl,hb2⟩
          obtain ⟨p2,rfl⟩:=gw_of_below hb2
          clear hb2
          have hbx:Below w.heap.size w (gw ((wr.alloc (.cells #[.int .i64 3,.int .i64 x1,.int .i64 x2] 172)).alloc (.cells #[.int .i64 4,.int .i64 x1,.int .i64 0] 172)) p2):=HB.out.trans (Below.mono (show Below wr.heap.size wr _ from bl) HB.out.size)
          have HBX:=Hh hbx; clear hbx
          go_wp2_with fail
          refine bodyPost_ret (v:=regT (some x1)) (by simp [results,Tryz.results181,go_sem,regT]) rfl ⟨by rw [HST.out],HBX.out⟩
        | false =>
          have hst:=HSTEP.out
          rw [if_neg (by rintro ⟨_,h⟩; exact absurd h (by decide))] at hst
          have HST:=Hh hst; clear hst
          go_wp2_with fail
          refine (HV.out _).mono ?_
          rintro e w2 ⟨rfl,hb2⟩
          obtain ⟨p2,rfl⟩:=gw_of_below hb2
          clear hb2
          have hbx:Below wr.heap.size wr (gw ((wr.alloc (.cells #[.int .i64 3,.int .i64 x1,.int .i64 x2] 172)).alloc (.cells #[.int .i64 4,.int .i64 x1,.int .i64 0] 172)) p2):=bl
          have HBX:=Hh hbx; clear hbx
          go_wp2_with fail
          go_roundw
          case rel=>exact ⟨j+1,by omega,by go_num,Hh (HB.out.trans (HBX.out.mono HB.out.size)),Hh (HR.out.below HBX.out),HST⟩
          case measure=>simp [intOf]; omega
      · have h3b:(x0 == 3)=false:=by simpa using h3
        have hst:=HSTEP.out
        rw [if_neg (fun h=>h3 h.1)] at hst
        have HST:=Hh hst; clear hst
        have hbx:Below wr.heap.size wr ((wr.alloc (.cells #[.int .i64 x0,.int .i64 x1,.int .i64 x2] 172)).alloc (.cells #[.int .i64 4,.int .i64 x1,.int .i64 0] 172)):=bl
        have HBX:=Hh hbx; clear hbx
        go_wp2_with fail
        go_roundw
        case rel=>exact ⟨j+1,by omega,by go_num,Hh (HB.out.trans (HBX.out.mono HB.out.size)),Hh (HR.out.below HBX.out),HST⟩
        case measure=>simp [intOf]; omega
    · obtain rfl:j=L.length:=by omega
      have hr0:R=none:=by rw [HG.out,List.drop_length]; rfl
      have HR0:=Hh hr0; clear hr0
      go_wp2_with fail
      refine bodyPost_ret (v:=regT none) (by simp [results,Tryz.results181,go_sem,regT]) rfl ⟨by rw [HR0.out],HB.out⟩
abbrev tokV (t:Tok):Value:=.agg #[.int .i64 t.kind,.string t.text,.int .i64 t.n,.int .i64 t.off]
set_option maxHeartbeats 1000000 in
theorem lexIs_any (k n off:Int) (s:ByteArray) (ws:List ByteArray) (v:Value) (w:World) (hr:Row w v ws.length (ws.map Value.string)) (hl:ws.length≤1000) :
 Calls Tryz.prog 57 #[.agg #[.int .i64 k,.string s,.int .i64 n,.int .i64 off],v] w fun e w'=>e=.returned (.bool (decide (k=4) && ws.any fun x=>s.toList == x.toList))∧Below w.heap.size w w':=by
 obtain ⟨R,hR⟩:∃ R,(decide (k=4) && ws.any fun x=>s.toList == x.toList)=R:=⟨_,rfl⟩
 rw [hR]
 obtain ⟨a,c,rfl,hc,hrow⟩:=hr
 have HR:=Hh hR; clear hR
 have HROW:=Hh hrow; clear hrow
 go_enter Tryz.func57,Tryz.ntmps57
 go_wp2_with fail
 go_loopw [9] (fun i wr=>∃ j:Nat,j≤ws.length∧i=.int .i64 j∧wr=w.alloc (.cells #[.int .i64 k,.string s,.int .i64 n,.int .i64 off] 34)∧Hid (R=(decide (k=4) && (ws.drop j).any fun x=>s.toList == x.toList))) (fun i _=>ws.length - (intOf i).toNat)
 case atStart=>exact ⟨0,Nat.zero_le _,rfl,rfl,Hh (by rw [List.drop_zero]; exact HR.out.symm)⟩
 case round =>
  obtain ⟨j,hj,rfl,rfl,HP⟩:=hrel
  by_cases hlt:j<ws.length
  · obtain ⟨x,hx⟩:∃ x,ws[j]? = some x:=⟨_,List.getElem?_eq_getElem hlt⟩
    obtain ⟨g,o,rfl,hg,hcs⟩:=HROW.out (by intro e; rw [List.map_eq_nil_iff] at e; rw [e] at hlt; exact absurd hlt (Nat.not_lt_zero _))
    have hcy:w.cell? ⟨g,o+j,none⟩=some (.string x):=by rw [hcs j (by rw [List.length_map]; exact hlt),List.getElem?_map,hx]; rfl
    clear hcs
    have hd:ws.drop j=x::ws.drop (j+1):=by
     obtain ⟨h1,h2⟩:=List.getElem?_eq_some_iff.1 hx
     rw [List.drop_eq_getElem_cons h1,h2]
    have HD:=Hh hd; clear hd hx
    have hi0:(0:Int)≤(j:Int):=by omega
    have hi1:(j:Int)<(ws.length:Int):=by omega
    rcases hk:(k == 4) with _ | _
    · have hk4:decide (k=4)=false:=by simpa using hk
      have HK:=Hh hk4; clear hk4
      go_wp2_with fail
      go_roundw
      case rel=>exact ⟨j+1,by omega,by go_num,by trivial,Hh (by rw [HP.out,HK.out]; rfl)⟩
      case measure=>simp [intOf]; omega
    · have hk4:decide (k=4)=true:=by simpa using hk
      have HK:=Hh hk4; clear hk4
      rcases hb:(s.toList == x.toList) with _ | _
      · have HB:=Hh hb
        go_wp2_with fail
        go_roundw
        case rel=>exact ⟨j+1,by omega,by go_num,by trivial,Hh (by rw [HP.out,HD.out,List.any_cons,HB.out]; simp)⟩
        case measure=>simp [intOf]; omega
      · have HB:=Hh hb
        go_wp2_with fail
        go_ret
        exact ⟨by rw [HP.out,HD.out,List.any_cons,HB.out,HK.out]; rfl,bl⟩
  · obtain rfl:j=ws.length:=by omega
    go_wp2_with fail
    go_ret
    exact ⟨by rw [HP.out,List.drop_length]; simp,bl⟩
theorem tl1 (l:List UInt8):(⟨l.toArray⟩:ByteArray).toList=l:=by rw [ByteArray.toList_eq]
theorem row1 {w:World} {b:Nat} {x:Value} (h:w.cell? ⟨b,0,none⟩=some x):Row w (.slice (some ⟨b,0,none⟩) 1 1) 1 [x] :=
 ⟨_,_,rfl,Nat.le_refl _,fun _=>⟨b,0,rfl,block_lt_of_cell (a:=⟨b,0,none⟩) h,fun j hj=>by
  obtain rfl:j=0:=by simp at hj; omega
  exact h⟩⟩
theorem row2 {w:World} {b:Nat} {x y:Value} (h:w.cell? ⟨b,0,none⟩=some x) (h2:w.cell? ⟨b,1,none⟩=some y):Row w (.slice (some ⟨b,0,none⟩) 2 2) 2 [x,y] :=
 ⟨_,_,rfl,Nat.le_refl _,fun _=>⟨b,0,rfl,block_lt_of_cell (a:=⟨b,0,none⟩) h,fun j hj=>by
  have:j=0∨j=1:=by simp at hj; omega
  rcases this with rfl | rfl
  · exact h
  · exact h2⟩⟩
theorem is1_any (k:Int) (s:ByteArray) (n off:Int) (c:UInt8) (b:Nat) (w:World) (h:w.cell? ⟨b,0,none⟩=some (.string ⟨#[c]⟩)):Calls Tryz.prog 57 #[.agg #[.int .i64 k,.string s,.int .i64 n,.int .i64 off],.slice (some ⟨b,0,none⟩) 1 1] w fun e w'=>e=.returned (.bool (signIs ⟨k,s,n,off⟩ [c]))∧Below w.heap.size w w':=by
 have h:=lexIs_any k n off s [⟨#[c]⟩] _ _ (row1 h) (by simp)
 refine h.mono ?_
 rintro e w' ⟨rfl,hb⟩
 refine ⟨?_,hb⟩
 have:signIs ⟨k,s,n,off⟩ [c]=(decide (k=4) && [(⟨#[c]⟩:ByteArray)].any fun x=>s.toList == x.toList):=by
  unfold signIs
  have h2:(⟨#[c]⟩:ByteArray).toList=[c]:=tl1 [c]
  simp only [List.any_cons,List.any_nil,Bool.or_false,h2]
 rw [this]
theorem is2_any (k:Int) (s:ByteArray) (n off:Int) (c d:UInt8) (b:Nat) (w:World) (h:w.cell? ⟨b,0,none⟩=some (.string ⟨#[c]⟩)) (h2:w.cell? ⟨b,1,none⟩=some (.string ⟨#[d]⟩)):Calls Tryz.prog 57 #[.agg #[.int .i64 k,.string s,.int .i64 n,.int .i64 off],.slice (some ⟨b,0,none⟩) 2 2] w fun e w'=>e=.returned (.bool (signIs ⟨k,s,n,off⟩ [c] || signIs ⟨k,s,n,off⟩ [d]))∧Below w.heap.size w w':=by
 have h:=lexIs_any k n off s [⟨#[c]⟩,⟨#[d]⟩] _ _ (row2 h h2) (by simp)
 refine h.mono ?_
 rintro e w' ⟨rfl,hb⟩
 refine ⟨?_,hb⟩
 have:(signIs ⟨k,s,n,off⟩ [c] || signIs ⟨k,s,n,off⟩ [d])=(decide (k=4) && [(⟨#[c]⟩:ByteArray),⟨#[d]⟩].any fun x=>s.toList == x.toList):=by
  unfold signIs
  have h2:(⟨#[c]⟩:ByteArray).toList=[c]:=tl1 [c]
  have h3:(⟨#[d]⟩:ByteArray).toList=[d]:=tl1 [d]
  simp only [List.any_cons,List.any_nil,Bool.or_false,h2,h3]
  cases decide (k=4)<;>simp
 rw [this]
set_option maxHeartbeats 1000000 in
theorem deeper_raw (k:Int) (s:ByteArray) (n o:Int) (w:World) (b1 b2:Bool) (D:Int) (hD:(if b1=true then 1 else if b2=true then -1 else 0)=D)
 (h1:∀ (b:Nat) (W:World),W.cell? ⟨b,0,none⟩=some (.string ⟨#[40]⟩)→Calls Tryz.prog 57 #[.agg #[.int .i64 k,.string s,.int .i64 n,.int .i64 o],.slice (some ⟨b,0,none⟩) 1 1] W fun e w'=>e=.returned (.bool b1)∧Below W.heap.size W w')
 (h2:∀ (b:Nat) (W:World),W.cell? ⟨b,0,none⟩=some (.string ⟨#[41]⟩)→Calls Tryz.prog 57 #[.agg #[.int .i64 k,.string s,.int .i64 n,.int .i64 o],.slice (some ⟨b,0,none⟩) 1 1] W fun e w'=>e=.returned (.bool b2)∧Below W.heap.size W w') :
 Calls Tryz.prog 56 #[.agg #[.int .i64 k,.string s,.int .i64 n,.int .i64 o]] w fun e w'=>e=.returned (.int .i64 D)∧Below w.heap.size w w':=by
 have H1:=Hh h1; have H2:=Hh h2
 clear h1 h2
 cases b1 with
 | true =>
   obtain rfl:D=1:=by rw [←hD]; rfl
   clear hD
   go_enter Tryz.func56,Tryz.ntmps56
   go_wp2_with fail
   (with_reducible refine (H1.out _ _ ?_).mono ?_)
   · simp [go_sem]
   rintro e w1 ⟨rfl,hb1⟩
   obtain ⟨p1,rfl⟩:=gw_of_below hb1
   clear hb1
   go_wp2_with fail
   go_ret
   exact ⟨rfl,bl⟩
 | false =>
   cases b2 with
   | true =>
     obtain rfl:D=-1:=by rw [←hD]; rfl
     clear hD
     go_enter Tryz.func56,Tryz.ntmps56
     go_wp2_with fail
     (with_reducible refine (H1.out _ _ ?_).mono ?_)
     · simp [go_sem]
     rintro e w1 ⟨rfl,hb1⟩
     obtain ⟨p1,rfl⟩:=gw_of_below hb1
     clear hb1
     go_wp2_with fail
     (with_reducible refine (H2.out _ _ ?_).mono ?_)
     · simp [go_sem]
     rintro e w1 ⟨rfl,hb1⟩
     obtain ⟨p2,rfl⟩:=gw_of_below hb1
     clear hb1
     go_wp2_with fail
     go_ret
     exact ⟨rfl,bl⟩
   | false =>
     obtain rfl:D=0:=by rw [←hD]; rfl
     clear hD
     go_enter Tryz.func56,Tryz.ntmps56
     go_wp2_with fail
     (with_reducible refine (H1.out _ _ ?_).mono ?_)
     · simp [go_sem]
     rintro e w1 ⟨rfl,hb1⟩
     obtain ⟨p1,rfl⟩:=gw_of_below hb1
     clear hb1
     go_wp2_with fail
     (with_reducible refine (H2.out _ _ ?_).mono ?_)
     · simp [go_sem]
     rintro e w1 ⟨rfl,hb1⟩
     obtain ⟨p2,rfl⟩:=gw_of_below hb1
     clear hb1
     go_wp2_with fail
     go_ret
     exact ⟨rfl,bl⟩
theorem deeper_any (t:Tok) (w:World):Calls Tryz.prog 56 #[tokV t] w fun e w'=>e=.returned (.int .i64 (deeperP t))∧Below w.heap.size w w' :=
 deeper_raw t.kind t.text t.n t.off w _ _ _ rfl (fun b W h=>is1_any t.kind t.text t.n t.off 40 b W h) (fun b W h=>is1_any t.kind t.text t.n t.off 41 b W h)
abbrev rdV (v:Value):Value:=.agg #[v]
set_option maxRecDepth 100000 in
set_option maxHeartbeats 1000000 in
theorem argWord_any (l:List Tok) (i:Nat) (v:Value) (w:World) (hr:Row w v l.length (tokc l)) (hi:i≤1000) (hs:∀ t∈l,t.text.size≤maxLen) :
 Calls Tryz.prog 179 #[rdV v,.int .i64 i] w fun e w'=>e=.returned (.string (wordAt l i))∧Below w.heap.size w w':=by
 obtain ⟨a,c,rfl,hc,hcs⟩:=hr.tok
 have hi0:(0:Int)≤(i:Int):=by omega
 by_cases hlt:i<l.length
 · obtain ⟨t,ht⟩:∃ t,l[i]? = some t:=⟨_,List.getElem?_eq_getElem hlt⟩
   obtain ⟨g,o,rfl,hg,hcs⟩:=hcs (by rintro rfl; exact absurd hlt (Nat.not_lt_zero _))
   obtain ⟨k0,k1,k2,k3⟩:=hcs i t ht
   have hup:=fun W=>upper_any t.text W (hs t (List.mem_of_getElem? ht))
   have HUP:=Hh hup; clear hup hcs
   have hi1:(i:Int)<(l.length:Int):=by omega
   rcases hk:(t.kind == 1) with _ | _
   · have hw:wordAt l i=⟨#[]⟩:=by unfold wordAt; rw [ht]; dsimp only; rw [if_neg (by simpa using hk)]
     rw [hw]
     clear hw ht hs hr
     obtain ⟨k,s,n,off⟩:=t
     dsimp only at k0 k1 k2 k3 hk HUP
     go_enter Tryz.func179,Tryz.ntmps179
     go_wp2_with fail
     go_ret
     exact ⟨rfl,bl⟩
   · have hw:wordAt l i=upper t.text:=by unfold wordAt; rw [ht]; dsimp only; rw [if_pos (by simpa using hk)]
     rw [hw]
     clear hw ht hs hr
     obtain ⟨k,s,n,off⟩:=t
     dsimp only at k0 k1 k2 k3 hk HUP ⊢
     go_enter Tryz.func179,Tryz.ntmps179
     go_wp2_with fail
     refine (HUP.out _).mono ?_
     rintro e w1 ⟨rfl,hb1⟩
     obtain ⟨p1,rfl⟩:=gw_of_below hb1
     clear hb1
     go_wp2_with fail
     go_ret
     exact ⟨rfl,bl⟩
 · have hw:wordAt l i=⟨#[]⟩:=by unfold wordAt; rw [List.getElem?_eq_none (by omega)]
   rw [hw]
   have hi1:¬ (i:Int)<(l.length:Int):=by omega
   go_enter Tryz.func179,Tryz.ntmps179
   go_wp2_with fail
   go_ret
   exact ⟨rfl,bl⟩
end Go.Proofs.YtkldoojonnkfgaaGreatDoor
