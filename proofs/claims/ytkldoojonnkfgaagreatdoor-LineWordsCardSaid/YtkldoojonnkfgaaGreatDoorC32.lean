/- Joined texts: TokSub, RegT. -/
import Derived.Test.YtkldoojonnkfgaaGreatDoorC16
namespace Go.Proofs.YtkldoojonnkfgaaGreatDoor
open Go.RowKit Go.Sort
theorem tokc_cons (t:Tok) (l:List Tok):tokc (t::l)=[.int .i64 t.kind,.string t.text,.int .i64 t.n,.int .i64 t.off]++tokc l:=rfl
theorem tokc_take:∀ (l:List Tok) (n:Nat),tokc (l.take n)=(tokc l).take (n * 4)
 | l,0=>by simp [tokc]
 | [],n+1=>by simp [tokc]
 | t::l,n+1=>by
   rw [List.take_succ_cons,tokc_cons,tokc_cons,tokc_take l n,show (n+1) * 4=n * 4+1+1+1+1 by omega]
   simp only [List.cons_append,List.nil_append,List.take_succ_cons]
theorem tokc_drop:∀ (l:List Tok) (n:Nat),tokc (l.drop n)=(tokc l).drop (n * 4)
 | l,0=>by simp
 | [],n+1=>by simp [tokc]
 | t::l,n+1=>by
   rw [List.drop_succ_cons,tokc_cons,tokc_drop l n,show (n+1) * 4=n * 4+1+1+1+1 by omega]
   simp only [List.cons_append,List.nil_append,List.drop_succ_cons]
theorem Row.tok2 {w:World} {v:Value} {l:List Tok} (h:Row w v l.length (tokc l)) (hl:l≠[]):∃ g o cap,v=.slice (some ⟨g,o,none⟩) l.length cap∧l.length≤cap∧g<w.heap.size ∧
 (∀ i x,l[i]? = some x→w.cell? ⟨g,o+i * 4,none⟩=some (.int .i64 x.kind)∧w.cell? ⟨g,o+i * 4+1,none⟩=some (.string x.text)∧w.cell? ⟨g,o+i * 4+2,none⟩=some (.int .i64 x.n)∧w.cell? ⟨g,o+i * 4+3,none⟩=some (.int .i64 x.off)) ∧
 (∀ lo hi a' cap',lo≤hi→hi≤l.length→(lo<hi→a'=some ⟨g,o+lo * 4,none⟩)→hi - lo≤cap'→Row w (.slice a' (hi - lo) cap') ((l.take hi).drop lo).length (tokc ((l.take hi).drop lo))):=by
 have hne:tokc l≠[]:=by intro e; apply hl; have:=tokc_len l; rw [e] at this; exact List.eq_nil_of_length_eq_zero (by simp at this; omega)
 obtain ⟨a,cap,hv,hn,h⟩:=h
 obtain ⟨g,o,rfl,hg,hc⟩:=h hne
 refine ⟨g,o,cap,hv,hn,hg,fun i x hx=>?_,fun lo hi a' cap' h1 h2 ha h3=>?_⟩
 · have hi:i<l.length:=(List.getElem?_eq_some_iff.1 hx).1
   have hlen:=tokc_len l
   obtain ⟨e0,e1,e2,e3⟩:=tokc_get l i x hx
   exact ⟨(hc (i * 4) (by omega)).trans e0,by rw [Nat.add_assoc]; exact (hc (i * 4+1) (by omega)).trans e1,by rw [Nat.add_assoc]; exact (hc (i * 4+2) (by omega)).trans e2,by rw [Nat.add_assoc]; exact (hc (i * 4+3) (by omega)).trans e3⟩
 · have hlen:((l.take hi).drop lo).length=hi - lo:=by rw [List.length_drop,List.length_take]; omega
   refine ⟨a',cap',by rw [hlen],by omega,fun hne2=>?_⟩
   have hlt:lo<hi:=by
    rcases Nat.lt_or_ge lo hi with h | h
    · exact h
    · exfalso; apply hne2
      have:(l.take hi).drop lo=[]:=List.eq_nil_of_length_eq_zero (by omega)
      rw [this]; rfl
   refine ⟨g,o+lo * 4,ha hlt,hg,fun j hj=>?_⟩
   have hlj:=tokc_len ((l.take hi).drop lo)
   have hlen0:=tokc_len l
   rw [tokc_drop,tokc_take,List.getElem?_drop,List.getElem?_take,if_pos (by omega),←hc (lo * 4+j) (by omega),Nat.add_assoc]
theorem regGo_step {l:List Op3} {j:Nat} {o:Op3} (h:l[j]? = some o):regGo (l.drop j)=if o.1=3∧opValid 4 o.2.1 0=true then some o.2.1 else regGo (l.drop (j+1)):=by
 obtain ⟨h1,h2⟩:=List.getElem?_eq_some_iff.1 h
 rw [List.drop_eq_getElem_cons h1,h2]
 rfl
def regT (o:Option Int):Value:=match o with | some r=>.tuple #[.int .i64 r,.bool true] | none=>.tuple #[.int .i64 0,.bool false]
set_option maxRecDepth 100000 in
set_option maxHeartbeats 2000000 in
theorem argReg_any (s:ByteArray) (w:World) (hs:s.size≤maxLen) :
 Calls Tryz.prog 181 #[.string s] w fun e w'=>e=.returned (regT (regP s))∧Below w.heap.size w w':=by
 by_cases hc:s.toList=[67]
 · have hp:regP s=some 8:=by unfold regP; rw [if_pos hc]
   rw [hp]
   have hc1:(s.toList == [67])=true:=by rw [hc]; rfl
   have HC:=Hh hc; clear hc hp
   go_enter Tryz.func181,Tryz.ntmps181
   go_wp2_with fail
   refine bodyPost_ret (v:=regT (some 8)) (by simp [results,Tryz.results181,go_sem,regT]) rfl ⟨rfl,Below.refl _ _⟩
 · have hp:regP s=regGo (namedO s):=by unfold regP; rw [if_neg hc]
   rw [hp]
   have hc1:(s.toList == [67])=false:=by simpa using hc
   have hnm:=fun X=>namedO_any s X hs
   have hlen:=namedO_len s
   obtain ⟨L,hL⟩:∃ L,namedO s=L:=⟨_,rfl⟩
   rw [hL] at hnm hlen ⊢
   obtain ⟨R,hR⟩:∃ R,regGo L=R:=⟨_,rfl⟩
   rw [hR]
   have HNM:=Hh hnm; have HRR:=Hh hR
   clear hnm hc hp hL hR
   go_enter Tryz.func181,Tryz.ntmps181
   go_wp2_with fail
   refine (HNM.out _).mono ?_
   rintro e w1 ⟨v,rfl,hrow,hb1⟩
   have HROW:=Hh hrow
   have HB1:=Hh hb1
   obtain ⟨a,c,rfl,hcc,_⟩:=hrow
   clear hb1
   go_wp2_with fail
   go_loopw [12] (fun i wr=>∃ j:Nat,j≤L.length∧i=.int .i64 j∧Hid (Below w.heap.size w wr)∧Hid (Row wr (.slice a L.length c) L.length (opc L))∧Hid (R=regGo (L.drop j))) (fun i _=>L.length - (intOf i).toNat)
   case atStart=>exact ⟨0,Nat.zero_le _,rfl,HB1,HROW,Hh (by rw [List.drop_zero]; exact HRR.out.symm)⟩
   case round =>
    obtain ⟨j,hj,rfl,HB,HR,HG⟩:=hrel
    by_cases hlt:j<L.length
    · obtain ⟨o,ho⟩:∃ o,L[j]? = some o:=⟨_,List.getElem?_eq_getElem hlt⟩
      obtain ⟨_,_,hv,_,hh⟩:=HR.out.op
      cases hv
      obtain ⟨g,off,rfl,hg,hh⟩:=hh (by rintro rfl; exact absurd hlt (Nat.not_lt_zero _))
      obtain ⟨k0,k1,k2⟩:=hh j o ho
      have hstep:=HG.out.trans (regGo_step ho)
      have hval:=fun X=>valid_any 4 o.2.1 0 X
      obtain ⟨q,hq⟩:∃ q,opValid 4 o.2.1 0=q:=⟨_,rfl⟩
      rw [hq] at hval hstep
      have HV:=Hh hval; have HSTEP:=Hh hstep
      have hi0:(0:Int)≤(j:Int):=by omega
      have hi1:(j:Int)<(L.length:Int):=by omega
      clear hh hval hstep hq ho
      obtain ⟨x0,x1,x2⟩:=o
      dsimp only at k0 k1 k2 HV HSTEP
      by_cases h3:x0=3
      · subst h3
        cases q with
        | true =>
          have hst:=HSTEP.out
          rw [if_pos ⟨rfl,rfl⟩] at hst
          have HST:=Hh hst; clear hst
          go_wp2_with fail
          refine (HV.out _).mono ?_
          rintro e w2 ⟨rfl,hb2⟩
          obtain ⟨p2,rfl⟩:=gw_of_below hb2
          clear hb2
          have hbx:Below w.heap.size w (gw ((wr.alloc (.cells #[.int .i64 3,.int .i64 x1,.int .i64 x2] 172)).alloc (.cells #[.int .i64 4,.int .i64 x1,.int .i64 0] 172)) p2):=HB.out.trans (Below.mono (show Below wr.heap.size wr _ from bl) HB.out.size)
          have HBX:=Hh hbx; clear hbx
          go_wp2_with fail
          refine bodyPost_ret (v:=regT (some x1)) (by simp [results,Tryz.results181,go_sem,regT]) rfl ⟨by rw [HST.out],HBX.out⟩
        | false =>
          have hst:=HSTEP.out
          rw [if_neg (by rintro ⟨_,h⟩; exact absurd h (by decide))] at hst
          have HST:=Hh hst; clear hst
          go_wp2_with fail
          refine (HV.out _).mono ?_
          rintro e w2 ⟨rfl,hb2⟩
          obtain ⟨p2,rfl⟩:=gw_of_below hb2
          clear hb2
          have hbx:Below wr.heap.size wr (gw ((wr.alloc (.cells #[.int .i64 3,.int .i64 x1,.int .i64 x2] 172)).alloc (.cells #[.int .i64 4,.int .i64 x1,.int .i64 0] 172)) p2):=bl
          have HBX:=Hh hbx; clear hbx
          go_wp2_with fail
          go_roundw
          case rel=>exact ⟨j+1,by omega,by go_num,Hh (HB.out.trans (HBX.out.mono HB.out.size)),Hh (HR.out.below HBX.out),HST⟩
          case measure=>simp [intOf]; omega
      · have h3b:(x0 == 3)=false:=by simpa using h3
        have hst:=HSTEP.out
        rw [if_neg (fun h=>h3 h.1)] at hst
        have HST:=Hh hst; clear hst
        have hbx:Below wr.heap.size wr ((wr.alloc (.cells #[.int .i64 x0,.int .i64 x1,.int .i64 x2] 172)).alloc (.cells #[.int .i64 4,.int .i64 x1,.int .i64 0] 172)):=bl
        have HBX:=Hh hbx; clear hbx
        go_wp2_with fail
        go_roundw
        case rel=>exact ⟨j+1,by omega,by go_num,Hh (HB.out.trans (HBX.out.mono HB.out.size)),Hh (HR.out.below HBX.out),HST⟩
        case measure=>simp [intOf]; omega
    · obtain rfl:j=L.length:=by omega
      have hr0:R=none:=by rw [HG.out,List.drop_length]; rfl
      have HR0:=Hh hr0; clear hr0
      go_wp2_with fail
      refine bodyPost_ret (v:=regT none) (by simp [results,Tryz.results181,go_sem,regT]) rfl ⟨by rw [HR0.out],HB.out⟩
end Go.Proofs.YtkldoojonnkfgaaGreatDoor
