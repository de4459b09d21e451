/- Joined texts: TokSub, InnerT, ExprT, ReadT. -/
import Derived.Test.YtkldoojonnkfgaaGreatDoorB39
namespace Go.Proofs.YtkldoojonnkfgaaGreatDoor
open Go.RowKit Go.Sort
theorem tokc_cons (t:Tok) (l:List Tok):tokc (t::l)=[.int .i64 t.kind,.string t.text,.int .i64 t.n,.int .i64 t.off]++tokc l:=rfl
theorem tokc_take:∀ (l:List Tok) (n:Nat),tokc (l.take n)=(tokc l).take (n * 4)
 | l,0=>by simp [tokc]
 | [],n+1=>by simp [tokc]
 | t::l,n+1=>by
   rw [List.take_succ_cons,tokc_cons,tokc_cons,tokc_take l n,show (n+1) * 4=n * 4+1+1+1+1 by omega]
   simp only [List.cons_append,List.nil_append,List.take_succ_cons]
theorem tokc_drop:∀ (l:List Tok) (n:Nat),tokc (l.drop n)=(tokc l).drop (n * 4)
 | l,0=>by simp
 | [],n+1=>by simp [tokc]
 | t::l,n+1=>by
   rw [List.drop_succ_cons,tokc_cons,tokc_drop l n,show (n+1) * 4=n * 4+1+1+1+1 by omega]
   simp only [List.cons_append,List.nil_append,List.drop_succ_cons]
theorem Row.tok2 {w:World} {v:Value} {l:List Tok} (h:Row w v l.length (tokc l)) (hl:l≠[]):∃ g o cap,v=.slice (some ⟨g,o,none⟩) l.length cap∧l.length≤cap∧g<w.heap.size ∧
 (∀ i x,l[i]? = some x→w.cell? ⟨g,o+i * 4,none⟩=some (.int .i64 x.kind)∧w.cell? ⟨g,o+i * 4+1,none⟩=some (.string x.text)∧w.cell? ⟨g,o+i * 4+2,none⟩=some (.int .i64 x.n)∧w.cell? ⟨g,o+i * 4+3,none⟩=some (.int .i64 x.off)) ∧
 (∀ lo hi a' cap',lo≤hi→hi≤l.length→(lo<hi→a'=some ⟨g,o+lo * 4,none⟩)→hi - lo≤cap'→Row w (.slice a' (hi - lo) cap') ((l.take hi).drop lo).length (tokc ((l.take hi).drop lo))):=by
 have hne:tokc l≠[]:=by intro e; apply hl; have:=tokc_len l; rw [e] at this; exact List.eq_nil_of_length_eq_zero (by simp at this; omega)
 obtain ⟨a,cap,hv,hn,h⟩:=h
 obtain ⟨g,o,rfl,hg,hc⟩:=h hne
 refine ⟨g,o,cap,hv,hn,hg,fun i x hx=>?_,fun lo hi a' cap' h1 h2 ha h3=>?_⟩
 · have hi:i<l.length:=(List.getElem?_eq_some_iff.1 hx).1
   have hlen:=tokc_len l
   obtain ⟨e0,e1,e2,e3⟩:=tokc_get l i x hx
   exact ⟨(hc (i * 4) (by omega)).trans e0,by rw [Nat.add_assoc]; exact (hc (i * 4+1) (by omega)).trans e1,by rw [Nat.add_assoc]; exact (hc (i * 4+2) (by omega)).trans e2,by rw [Nat.add_assoc]; exact (hc (i * 4+3) (by omega)).trans e3⟩
 · have hlen:((l.take hi).drop lo).length=hi - lo:=by rw [List.length_drop,List.length_take]; omega
   refine ⟨a',cap',by rw [hlen],by omega,fun hne2=>?_⟩
   have hlt:lo<hi:=by
    rcases Nat.lt_or_ge lo hi with h | h
    · exact h
    · exfalso; apply hne2
      have:(l.take hi).drop lo=[]:=List.eq_nil_of_length_eq_zero (by omega)
      rw [this]; rfl
   refine ⟨g,o+lo * 4,ha hlt,hg,fun j hj=>?_⟩
   have hlj:=tokc_len ((l.take hi).drop lo)
   have hlen0:=tokc_len l
   rw [tokc_drop,tokc_take,List.getElem?_drop,List.getElem?_take,if_pos (by omega),←hc (lo * 4+j) (by omega),Nat.add_assoc]
theorem innerGo_step {n i:Nat} {d:Int} {l:List Tok} {j:Nat} {t:Tok} (h:l[j]? = some t):innerGo n i d (l.drop j)=if d+deeperP t≤0 then decide (0<i) && decide (i+1=n) else innerGo n (i+1) (d+deeperP t) (l.drop (j+1)):=by
 obtain ⟨h1,h2⟩:=List.getElem?_eq_some_iff.1 h
 rw [List.drop_eq_getElem_cons h1,h2]
 rfl
theorem inner_part (l:List Tok):(l.drop 1).take (l.length - 2)=(l.take (l.length - 1)).drop 1:=by
 rw [List.drop_take,Nat.sub_sub]
theorem deeper_small (t:Tok):-1≤deeperP t∧deeperP t≤1:=by
 unfold deeperP
 repeat' split
 all_goals omega
set_option maxRecDepth 100000 in
set_option maxHeartbeats 4000000 in
theorem inner_any (l:List Tok) (v:Value) (w:World) (hr:Row w v l.length (tokc l)) (hl:l.length≤1000000) :
 Calls Tryz.prog 180 #[rdV v] w fun e w'=>∃ a n c,e=.returned (.tuple #[rdV (.slice a n c),.bool (innerP l).isSome])∧Row w' (.slice a n c) ((innerP l).getD []).length (tokc ((innerP l).getD []))∧Below w.heap.size w w':=by
 obtain ⟨R,hR⟩:∃ R,innerGo l.length 0 0 l=R:=⟨_,rfl⟩
 have hI:innerP l=if R=true then some ((l.take (l.length - 1)).drop 1) else none:=by unfold innerP; rw [hR,inner_part]
 obtain ⟨B,hB⟩:∃ B,(innerP l).isSome=B:=⟨_,rfl⟩
 obtain ⟨M,hM⟩:∃ M,(innerP l).getD []=M:=⟨_,rfl⟩
 have h1:R=true→B=true∧M=(l.take (l.length - 1)).drop 1:=fun h=>by rw [hI,if_pos h] at hB hM; exact ⟨hB.symm,hM.symm⟩
 have h2:R=false→B=false∧M=[]:=fun h=>by rw [hI,if_neg (by rw [h]; decide)] at hB hM; exact ⟨hB.symm,hM.symm⟩
 rw [hB,hM]
 have HRR:=Hh hR
 have HY:=Hh h1; have HN:=Hh h2
 clear hR hI hB hM h1 h2
 have HTOK:=Hh hr
 obtain ⟨a,c,rfl,hc,_⟩:=hr
 have hlc:(l.length:Int)≤(c:Int):=by omega
 have hl1:(l.length:Int)≤1000000:=by omega
 go_enter Tryz.func180,Tryz.ntmps180
 go_wp2_with fail
 obtain ⟨W,hW⟩:∃ W,((w.alloc (.cells #[.slice a l.length c] 185)).alloc (.cells #[.slice none 0 0] 185))=W:=⟨_,rfl⟩
 have hbW:Below w.heap.size w W:=by rw [←hW]; exact ((Below.refl _ _).alloc (Nat.le_refl _) _).alloc (by simp) _
 have hsz:W.heap.size=w.heap.size+1+1:=by rw [←hW]; simp
 have h0:W.heap[w.heap.size]? = some (.cells #[.slice a l.length c] 185 (0,0)):=by rw [←hW]; exact blk_alloc (blk_new _ _)
 have h1:W.heap[w.heap.size+1]? = some (.cells #[.slice none 0 0] 185 (0,0)):=by rw [←hW]; have:=blk_new (w.alloc (.cells #[.slice a l.length c] 185)) (.cells #[.slice none 0 0] 185); rwa [World.size_alloc] at this
 rw [hW]
 clear hW
 have HBW:=Hh hbW; have HSZ:=Hh hsz; have H0:=Hh h0; have H1:=Hh h1
 obtain ⟨t0⟩:Nonempty (W.cell? ⟨w.heap.size,0,none⟩=some (.slice a l.length c)):=⟨by rw [blk_cell h0]; rfl⟩
 clear hbW hsz h0 h1
 go_wp2_with fail
 go_loopw [4,11] (fun d i wr=>∃ (j:Nat) (dd:Int),j≤l.length∧-(j:Int)≤dd∧dd≤j∧i=.int .i64 j∧d=.int .i64 dd∧Hid (R=innerGo l.length j dd (l.drop j))∧Hid (Below W.heap.size W wr)) (fun _ i _=>l.length - (intOf i).toNat)
 case atStart=>exact ⟨0,0,Nat.zero_le _,by omega,by omega,rfl,rfl,Hh HRR.out.symm,Hh (Below.refl _ _)⟩
 case round =>
  obtain ⟨j,dd,hj,hd1,hd2,rfl,rfl,HG,HB⟩:=hrel
  have hwr:w.heap.size+1+1≤wr.heap.size:=by rw [←HSZ.out]; exact HB.out.size
  by_cases hlt:j<l.length
  · obtain ⟨t,ht⟩:∃ t,l[j]? = some t:=⟨_,List.getElem?_eq_getElem hlt⟩
    have hbr:=HBW.out.trans (HB.out.mono HBW.out.size)
    obtain ⟨g,o,cap,hv,hcap,hg,hcs,hsub⟩:=(HTOK.out.below hbr).tok2 (by rintro rfl; exact absurd hlt (Nat.not_lt_zero _))
    cases hv
    obtain ⟨k0,k1,k2,k3⟩:=hcs j t ht
    have h0:=blk_below H0.out HB.out (by rw [HSZ.out]; omega)
    have h1:=blk_below H1.out HB.out (by rw [HSZ.out]; omega)
    have c0:wr.cell? ⟨w.heap.size,0,none⟩=some (.slice (some ⟨g,o,none⟩) l.length c):=by rw [blk_cell h0]; rfl
    have hstep:=innerGo_step (n:=l.length) (i:=j) (d:=dd) ht
    have hdp:=fun W=>deeper_any t W
    have hds:=deeper_small t
    obtain ⟨D,hD⟩:∃ D,deeperP t=D:=⟨_,rfl⟩
    rw [hD] at hstep hdp hds
    have hG2:=HG.out.trans hstep
    have HG2:=Hh hG2; clear hG2 hstep hD
    have HDP:=Hh hdp; clear hdp
    have HH0:=Hh h0; have HH1:=Hh h1
    obtain ⟨_,_,_,hv2,_,_,_,hsub0⟩:=HTOK.out.tok2 (by rintro rfl; exact absurd hlt (Nat.not_lt_zero _))
    cases hv2
    have HSUB:=Hh hsub0
    have HTT:=Hh ht
    clear hcs hsub hsub0 h0 h1 ht HG hbr
    have hi0:(0:Int)≤(j:Int):=by omega
    have hi1:(j:Int)<(l.length:Int):=by omega
    obtain ⟨tk,tt,tn,tq⟩:=t
    dsimp only at k0 k1 k2 k3
    obtain ⟨hd3,hd4⟩:=hds
    by_cases hle:dd+D≤0
    · rw [if_pos hle] at HG2
      have hj0:((j:Int) == 0)=decide (j=0):=by by_cases h:j=0<;>simp [h]
      by_cases hlast:0<j∧j+1=l.length
      · have hr1:R=true:=by rw [HG2.out]; simp [hlast]
        have HR1:=Hh (HY.out hr1)
        obtain ⟨hl0,hl9⟩:=hlast
        have hj1:((j:Int) == 0)=false:=by rw [hj0]; simp; omega
        have hj2:¬ ((j:Int)<(l.length:Int) - 1):=by omega
        clear hr1 HG2 hj0
        go_wp2_with fail
        (with_reducible refine (HDP.out _).mono ?_)
        rintro e w2 ⟨rfl,hb2⟩
        have hbx:Below wr.heap.size wr w2:=below_of_alloc hb2
        have h02:=blk_below HH0.out hbx (by omega)
        have h12:=blk_below HH1.out hbx (by omega)
        have c02:w2.cell? ⟨w.heap.size,0,none⟩=some (.slice (some ⟨g,o,none⟩) l.length c):=by rw [blk_cell h02]; rfl
        have c12:w2.cell? ⟨w.heap.size+1,0,none⟩=some (.slice none 0 0):=by rw [blk_cell h12]; rfl
        have f12:w2.frozen? ⟨w.heap.size+1,0,none⟩=false:=blk_frozen h12 0
        have HBX:=Hh (HB.out.trans (hbx.mono HB.out.size))
        have HBX2:=Hh hbx
        have H12:=Hh h12
        clear hbx h02 h12 hb2 k0 k1 k2 k3
        go_wp2_with fail
        have e1:(w2.setCell ⟨w.heap.size+1,0,none⟩ (.slice (some ⟨g,o+4,none⟩) (l.length - 1 - 1) (c - 1))).cell? ⟨w.heap.size+1,0,none⟩=some (.slice (some ⟨g,o+4,none⟩) (l.length - 1 - 1) (c - 1)):=by rw [blk_cell (blk_set H12.out)]; rfl
        have hbf:=(HBW.out.trans (HBX.out.mono HBW.out.size)).setCell (p:=⟨w.heap.size+1,0,none⟩) (by show w.heap.size≤w.heap.size+1; omega) (.slice (some ⟨g,o+4,none⟩) (l.length - 1 - 1) (c - 1))
        have hrs:=HSUB.out 1 (l.length - 1) (some ⟨g,o+4,none⟩) (c - 1) (by omega) (by omega) (fun _=>by simp) (by omega)
        have hlm:((l.take (l.length - 1)).drop 1).length=l.length - 1 - 1:=by rw [List.length_drop,List.length_take]; omega
        refine bodyPost_ret (v:=.tuple #[rdV (.slice (some ⟨g,o+4,none⟩) (l.length - 1 - 1) (c - 1)),.bool true]) (by simp [results,Tryz.results180,go_sem,e1]) rfl ⟨_,_,_,by rw [HR1.out.1],?_,hbf⟩
        rw [HR1.out.2]
        exact hrs.below hbf
      · have hr0:R=false:=by rw [HG2.out]; simp only [Bool.and_eq_false_iff,decide_eq_false_iff_not]; omega
        have HR0:=Hh hr0
        clear hr0 HG2
        by_cases hjz:j=0
        · have hj1:((j:Int) == 0)=true:=by rw [hj0]; simp [hjz]
          clear hj0 hlast hjz
          go_wp2_with fail
          (with_reducible refine (HDP.out _).mono ?_)
          rintro e w2 ⟨rfl,hb2⟩
          have hbx:Below wr.heap.size wr w2:=below_of_alloc hb2
          have h02:=blk_below HH0.out hbx (by omega)
          have h12:=blk_below HH1.out hbx (by omega)
          have c02:w2.cell? ⟨w.heap.size,0,none⟩=some (.slice (some ⟨g,o,none⟩) l.length c):=by rw [blk_cell h02]; rfl
          have c12:w2.cell? ⟨w.heap.size+1,0,none⟩=some (.slice none 0 0):=by rw [blk_cell h12]; rfl
          have f12:w2.frozen? ⟨w.heap.size+1,0,none⟩=false:=blk_frozen h12 0
          have HBX:=Hh (HB.out.trans (hbx.mono HB.out.size))
          have HBX2:=Hh hbx
          have H12:=Hh h12
          clear hbx h02 h12 hb2 k0 k1 k2 k3
          have HN0:=Hh (HN.out HR0.out)
          go_wp2_with fail
          have e1:(w2.setCell ⟨w.heap.size+1,0,none⟩ (.slice none 0 0)).cell? ⟨w.heap.size+1,0,none⟩=some (.slice none 0 0):=by rw [blk_cell (blk_set H12.out)]; rfl
          refine bodyPost_ret (v:=.tuple #[rdV (.slice none 0 0),.bool false]) (by simp [results,Tryz.results180,go_sem,e1]) rfl ⟨none,0,0,by rw [HN0.out.1],by rw [HN0.out.2]; exact (WRow.nil _ 0).row,((HBW.out.trans (HBX.out.mono HBW.out.size)).setCell (p:=⟨w.heap.size+1,0,none⟩) (by show w.heap.size≤w.heap.size+1; omega) _)⟩
        · have hj1:((j:Int) == 0)=false:=by rw [hj0]; simp [hjz]
          have hj2:((j:Int)<(l.length:Int) - 1):=by omega
          clear hj0 hlast hjz
          go_wp2_with fail
          (with_reducible refine (HDP.out _).mono ?_)
          rintro e w2 ⟨rfl,hb2⟩
          have hbx:Below wr.heap.size wr w2:=below_of_alloc hb2
          have h02:=blk_below HH0.out hbx (by omega)
          have h12:=blk_below HH1.out hbx (by omega)
          have c02:w2.cell? ⟨w.heap.size,0,none⟩=some (.slice (some ⟨g,o,none⟩) l.length c):=by rw [blk_cell h02]; rfl
          have c12:w2.cell? ⟨w.heap.size+1,0,none⟩=some (.slice none 0 0):=by rw [blk_cell h12]; rfl
          have f12:w2.frozen? ⟨w.heap.size+1,0,none⟩=false:=blk_frozen h12 0
          have HBX:=Hh (HB.out.trans (hbx.mono HB.out.size))
          have HBX2:=Hh hbx
          have H12:=Hh h12
          clear hbx h02 h12 hb2 k0 k1 k2 k3
          have HN0:=Hh (HN.out HR0.out)
          go_wp2_with fail
          have e1:(w2.setCell ⟨w.heap.size+1,0,none⟩ (.slice none 0 0)).cell? ⟨w.heap.size+1,0,none⟩=some (.slice none 0 0):=by rw [blk_cell (blk_set H12.out)]; rfl
          refine bodyPost_ret (v:=.tuple #[rdV (.slice none 0 0),.bool false]) (by simp [results,Tryz.results180,go_sem,e1]) rfl ⟨none,0,0,by rw [HN0.out.1],by rw [HN0.out.2]; exact (WRow.nil _ 0).row,((HBW.out.trans (HBX.out.mono HBW.out.size)).setCell (p:=⟨w.heap.size+1,0,none⟩) (by show w.heap.size≤w.heap.size+1; omega) _)⟩
    · rw [if_neg hle] at HG2
      go_wp2_with fail
      (with_reducible refine (HDP.out _).mono ?_)
      rintro e w2 ⟨rfl,hb2⟩
      have hbx:Below wr.heap.size wr w2:=below_of_alloc hb2
      have h02:=blk_below HH0.out hbx (by omega)
      have h12:=blk_below HH1.out hbx (by omega)
      have c02:w2.cell? ⟨w.heap.size,0,none⟩=some (.slice (some ⟨g,o,none⟩) l.length c):=by rw [blk_cell h02]; rfl
      have c12:w2.cell? ⟨w.heap.size+1,0,none⟩=some (.slice none 0 0):=by rw [blk_cell h12]; rfl
      have f12:w2.frozen? ⟨w.heap.size+1,0,none⟩=false:=blk_frozen h12 0
      have HBX:=Hh (HB.out.trans (hbx.mono HB.out.size))
      have HBX2:=Hh hbx
      have H12:=Hh h12
      clear hbx h02 h12 hb2 k0 k1 k2 k3
      go_wp2_with fail
      go_roundw
      case rel=>exact ⟨j+1,dd+D,by omega,by omega,by omega,by go_num,rfl,HG2,HBX⟩
      case measure=>simp [intOf]; omega
  · obtain rfl:j=l.length:=by omega
    have hr0:R=false:=by rw [HG.out,List.drop_length]; rfl
    have HR0:=Hh hr0
    have h12:=blk_below H1.out HB.out (by rw [HSZ.out]; omega)
    have c12:wr.cell? ⟨w.heap.size+1,0,none⟩=some (.slice none 0 0):=by rw [blk_cell h12]; rfl
    have f12:wr.frozen? ⟨w.heap.size+1,0,none⟩=false:=blk_frozen h12 0
    have H12:=Hh h12
    clear h12 hr0
    have HN0:=Hh (HN.out HR0.out)
    go_wp2_with fail
    have e1:(wr.setCell ⟨w.heap.size+1,0,none⟩ (.slice none 0 0)).cell? ⟨w.heap.size+1,0,none⟩=some (.slice none 0 0):=by rw [blk_cell (blk_set H12.out)]; rfl
    refine bodyPost_ret (v:=.tuple #[rdV (.slice none 0 0),.bool false]) (by simp [results,Tryz.results180,go_sem,e1]) rfl ⟨none,0,0,by rw [HN0.out.1],by rw [HN0.out.2]; exact (WRow.nil _ 0).row,((HBW.out.trans (HB.out.mono HBW.out.size)).setCell (p:=⟨w.heap.size+1,0,none⟩) (by show w.heap.size≤w.heap.size+1; omega) _)⟩
theorem NodeAt.keepN {T:TypeId} {B:Nat} {w w':World} (hk:∀ (k:Nat) (c:Array Value) (r:Nat × Nat),w.heap[k]? = some (Obj.cells c T r)→w'.heap[k]? = some (Obj.cells c T r)):∀ (x:Ex) (v:Value),NodeAt T B w x v→NodeAt T B w' x v
 | .num _,_,⟨g,h1,h2,h3⟩=>⟨g,h1,h2,hk _ _ _ h3⟩
 | .sym _,_,⟨g,h1,h2,h3⟩=>⟨g,h1,h2,hk _ _ _ h3⟩
 | .here,_,⟨g,h1,h2,h3⟩=>⟨g,h1,h2,hk _ _ _ h3⟩
 | .un _ a,_,⟨g,va,h1,h2,h3,h4⟩=>⟨g,va,h1,h2,hk _ _ _ h3,NodeAt.keepN hk a va h4⟩
 | .bin _ a b,_,⟨g,va,vb,h1,h2,h3,h4,h5⟩=>⟨g,va,vb,h1,h2,hk _ _ _ h3,NodeAt.keepN hk a va h4,NodeAt.keepN hk b vb h5⟩
theorem OptAt.setBox {T T2:TypeId} {w:World} {o:Option Ex} {v u:Value} {b i:Nat} {C:Array Value} {r2:Nat × Nat} (h:OptAt T w o v) (hb:w.heap[b]? = some (.cells C T2 r2)) (hT:T2≠T):OptAt T (w.setCell ⟨b,i,none⟩ u) o v:=by
 cases o with
 | none=>exact h
 | some x =>
   refine NodeAt.keepN (fun k c r hk=>blk_other hk (fun e=>?_)) x v h
   rw [e,hb] at hk
   have:=Option.some.inj hk
   simp only [Obj.cells.injEq] at this
   exact hT this.2.1
abbrev arV (a:Ar) (p:Option Addr):Value:=.agg #[.int .i64 a.kind,.string a.text,.pointer p]
def ar0:Ar:=⟨0,⟨#[]⟩,none⟩
theorem exprA_ok {kind:Int} {text:ByteArray} {l:List Tok} (h:(parseR l).1=0):exprA kind text l=(⟨kind,text,(parseR l).2⟩,0):=by
 unfold exprA
 cases hp:parseR l with
 | mk c o =>
   rw [hp] at h
   dsimp only at h
   subst h
   cases o with
   | some x=>rfl
   | none =>
     have:=parseR_code (l:=l) (by rw [hp])
     rw [hp] at this
     dsimp only at this
     omega
theorem exprA_no {kind:Int} {text:ByteArray} {l:List Tok} (h:(parseR l).1≠0):exprA kind text l=(ar0,(parseR l).1):=by
 unfold exprA
 cases hp:parseR l with
 | mk c o =>
   rw [hp] at h
   dsimp only at h
   cases o with
   | some x=>dsimp only; rw [if_neg h]; rfl
   | none=>rfl
def ArRes (x:Ar × Int) (w:World) (e:Ending) (w':World):Prop:=∃ p,e=.returned (.tuple #[arV x.1 p,.int .i64 x.2])∧OptAt 225 w' x.1.ex (.pointer p)∧Below w.heap.size w w'
set_option maxRecDepth 100000 in
set_option maxHeartbeats 2000000 in
theorem expression_any (l:List Tok) (v:Value) (kind:Int) (text:ByteArray) (w:World) (hr:Row w v l.length (tokc l)) (hs:TokOk l) (hl:l.length≤1000000) :
 Calls Tryz.prog 182 #[rdV v,.int .i64 kind,.string text] w (ArRes (exprA kind text l) w):=by
 have hp:=fun X (hb:Below w.heap.size w X)=>exprParse_any l v X (hr.below hb) hs hl
 unfold ParseRes at hp
 unfold ArRes
 obtain ⟨a,c,rfl,_,_⟩:=hr
 by_cases h0:(parseR l).1=0
 · rw [exprA_ok h0]
   rw [h0] at hp
   obtain ⟨O,hO⟩:∃ O,(parseR l).2=O:=⟨_,rfl⟩
   rw [hO] at hp ⊢
   have HP:=Hh hp; clear hp hO h0
   dsimp only
   go_enter Tryz.func182,Tryz.ntmps182
   go_wp2_with fail
   have hbW:Below w.heap.size w ((w.alloc (.cells #[.slice a l.length c] 185)).alloc (.cells #[.int .i64 0,.string ⟨#[]⟩,.pointer none] 84)):=bl
   have h1:=blk_new (w.alloc (.cells #[.slice a l.length c] 185)) (.cells #[.int .i64 0,.string ⟨#[]⟩,.pointer none] 84)
   rw [World.size_alloc] at h1
   (with_reducible refine (HP.out _ hbW).mono ?_)
   rintro e w2 ⟨vt,rfl,ho,hb2⟩
   obtain ⟨p,rfl⟩:=OptAt.ptr ho
   have h12:=blk_below h1 hb2 (by simp)
   obtain ⟨k0,k1,k2,f0,f1,f2⟩:=cells3 h12
   have HO:=Hh ho; have H12:=Hh h12
   have HB2:=Hh (hbW.trans (hb2.mono hbW.size))
   clear hbW h1 hb2 ho h12
   go_wp2_with fail
   have g1:(((w2.setCell ⟨w.heap.size+1,0,none⟩ (.int .i64 kind)).setCell ⟨w.heap.size+1,1,none⟩ (.string text)).setCell ⟨w.heap.size+1,2,none⟩ (.pointer p)).heap[w.heap.size+1]? = some (.cells #[.int .i64 kind,.string text,.pointer p] 84 (0,0)):=blk_set (blk_set (blk_set H12.out))
   obtain ⟨n0,n1,n2,_⟩:=cells3 g1
   refine bodyPost_ret (v:=.tuple #[.agg #[.int .i64 kind,.string text,.pointer p],.int .i64 0]) (by simp [results,Tryz.results182,go_sem,n0,n1,n2]) rfl ⟨p,rfl,?_,?_⟩
   · exact OptAt.setBox (OptAt.setBox (OptAt.setBox HO.out H12.out (by decide)) (blk_set H12.out) (by decide)) (blk_set (blk_set H12.out)) (by decide)
   · have hb9:=HB2.out
     with_reducible repeat (refine Below.setCell ?_ (by exact Nat.le_succ _) _)
     exact hb9
 · rw [exprA_no h0]
   obtain ⟨C,hC⟩:∃ C,(parseR l).1=C:=⟨_,rfl⟩
   rw [hC] at hp h0 ⊢
   have HP:=Hh hp; clear hp hC
   have hne:(C != 0)=true:=bne_iff_ne.2 h0
   clear h0
   show Calls Tryz.prog 182 #[rdV (.slice a l.length c),.int .i64 kind,.string text] w fun e w'=>∃ p,e=.returned (.tuple #[.agg #[.int .i64 0,.string ⟨#[]⟩,.pointer p],.int .i64 C])∧OptAt 225 w' none (.pointer p)∧Below w.heap.size w w'
   go_enter Tryz.func182,Tryz.ntmps182
   go_wp2_with fail
   have hbW:Below w.heap.size w ((w.alloc (.cells #[.slice a l.length c] 185)).alloc (.cells #[.int .i64 0,.string ⟨#[]⟩,.pointer none] 84)):=bl
   have h1:=blk_new (w.alloc (.cells #[.slice a l.length c] 185)) (.cells #[.int .i64 0,.string ⟨#[]⟩,.pointer none] 84)
   rw [World.size_alloc] at h1
   (with_reducible refine (HP.out _ hbW).mono ?_)
   rintro e w2 ⟨vt,rfl,ho,hb2⟩
   obtain ⟨p,rfl⟩:=OptAt.ptr ho
   have h12:=blk_below h1 hb2 (by simp)
   obtain ⟨k0,k1,k2,f0,f1,f2⟩:=cells3 h12
   have H12:=Hh h12
   have HB2:=Hh (hbW.trans (hb2.mono hbW.size))
   clear hbW h1 hb2 ho h12
   go_wp2_with fail
   have g1:(((w2.setCell ⟨w.heap.size+1,0,none⟩ (.int .i64 0)).setCell ⟨w.heap.size+1,1,none⟩ (.string ⟨#[]⟩)).setCell ⟨w.heap.size+1,2,none⟩ (.pointer none)).heap[w.heap.size+1]? = some (.cells #[.int .i64 0,.string ⟨#[]⟩,.pointer none] 84 (0,0)):=blk_set (blk_set (blk_set H12.out))
   obtain ⟨n0,n1,n2,_⟩:=cells3 g1
   refine bodyPost_ret (v:=.tuple #[.agg #[.int .i64 0,.string ⟨#[]⟩,.pointer none],.int .i64 C]) (by simp [results,Tryz.results182,go_sem,n0,n1,n2]) rfl ⟨none,rfl,rfl,?_⟩
   have hb9:=HB2.out
   with_reducible repeat (refine Below.setCell ?_ (by exact Nat.le_succ _) _)
   exact hb9
theorem upSize7 (s:ByteArray):(upper s).size=s.size:=by show (upper s).data.size=s.data.size; simp [upper]
theorem wordAt_size {l:List Tok} (h:TokOk l) (i:Nat):(wordAt l i).size≤1000000:=by
 unfold wordAt
 split
 · rename_i t ht
   split
   · rw [upSize7]; exact (h t (List.mem_of_getElem? ht)).1
   · show (0:Nat)≤_; omega
 · show (0:Nat)≤_; omega
theorem inner_mem {l:List Tok} {t:Tok} (h:t∈(innerP l).getD []):t∈l:=by
 unfold innerP at h
 split at h
 · exact List.mem_of_mem_drop (List.mem_of_mem_take h)
 · simp at h
theorem inner_ok {l:List Tok} (h:TokOk l):TokOk ((innerP l).getD []):=fun t ht=>h t (inner_mem ht)
theorem inner_len (l:List Tok):((innerP l).getD []).length≤l.length:=by
 unfold innerP
 split
 · simp; omega
 · simp
def RdRes (x:Ar × Int) (ok:Bool) (w:World) (e:Ending) (w':World):Prop:=∃ p,e=.returned (.tuple #[arV x.1 p,.int .i64 x.2,.bool ok])∧OptAt 225 w' x.1.ex (.pointer p)∧Below w.heap.size w w'
abbrev rdC (a:Option Addr) (n c:Nat):Obj:=.cells #[.slice a n c] 185 (0,0)
abbrev arC0:Obj:=.cells #[.int .i64 0,.string ⟨#[]⟩,.pointer none] 84 (0,0)
theorem arBox (w:World) (o:Obj):((w.alloc o).alloc arC0).heap[w.heap.size+1]? = some arC0:=by
 have:=blk_new (w.alloc o) arC0
 rwa [World.size_alloc] at this
theorem ar_fin {w2 w:World} {b:Nat} {o:Option Ex} {p q:Option Addr} {x0 x1 x2:Value} {k:Int} {s:ByteArray} (hb:w2.heap[b]? = some (.cells #[x0,x1,x2] 84 (0,0))) (ho:OptAt 225 w2 o (.pointer p)) (hB:Below w.heap.size w w2) (hle:w.heap.size≤b) (X:World)
 (hX:X=((w2.setCell ⟨b,0,none⟩ (.int .i64 k)).setCell ⟨b,1,none⟩ (.string s)).setCell ⟨b,2,none⟩ (.pointer q)) :
 X.heap[b]? = some (.cells #[.int .i64 k,.string s,.pointer q] 84 (0,0))∧OptAt 225 X o (.pointer p)∧Below w.heap.size w X:=by
 subst hX
 refine ⟨blk_set (blk_set (blk_set hb)),OptAt.setBox (OptAt.setBox (OptAt.setBox ho hb (by decide)) (blk_set hb) (by decide)) (blk_set (blk_set hb)) (by decide),?_⟩
 exact ((hB.setCell (p:=⟨b,0,none⟩) hle _).setCell (p:=⟨b,1,none⟩) hle _).setCell (p:=⟨b,2,none⟩) hle _
set_option maxRecDepth 100000 in
set_option maxHeartbeats 2000000 in
theorem argName_any (l:List Tok) (v:Value) (w:World) (hr:Row w v l.length (tokc l)) (hs:TokOk l) :
 Calls Tryz.prog 102 #[rdV v] w (RdRes (⟨1,wordAt l 0,none⟩,0) (decide (l.length=1) && resvA (wordAt l 0)) w):=by
 have hw:∀ X,Below w.heap.size w X→Calls Tryz.prog 179 #[rdV v,.int .i64 0] X fun e w'=>e=.returned (.string (wordAt l 0))∧Below X.heap.size X w':=fun X hb=>argWord_any l 0 v X (hr.below hb) (by omega) (fun t ht=>by have:=(hs t ht).1; unfold maxLen; omega)
 have hrs:=fun X=>reserved_any (wordAt l 0) X (by have:=wordAt_size hs 0; unfold maxLen; omega)
 obtain ⟨U,hU⟩:∃ U,wordAt l 0=U:=⟨_,rfl⟩
 rw [hU] at hw hrs ⊢
 obtain ⟨q,hq⟩:∃ q,resvA U=q:=⟨_,rfl⟩
 have hrs2:∀ X,Calls Tryz.prog 76 #[.string U] X fun e w'=>e=.returned (.bool q)∧Below X.heap.size X w':=fun X=>by rw [←hq]; exact hrs X
 rw [hq]
 have HW:=Hh hw; have HRS:=Hh hrs2
 clear hw hrs hrs2 hU hq
 obtain ⟨a,c,rfl,_,_⟩:=hr
 unfold RdRes
 dsimp only
 by_cases h1:l.length=1
 · have h1b:((l.length:Int) == 1)=true:=by rw [h1]; rfl
   rw [decide_eq_true h1,Bool.true_and]
   clear h1
   go_enter Tryz.func102,Tryz.ntmps102
   go_wp2_with fail
   have hbW:Below w.heap.size w ((w.alloc (.cells #[.slice a l.length c] 185)).alloc (.cells #[.int .i64 0,.string ⟨#[]⟩,.pointer none] 84)):=bl
   (with_reducible refine (HW.out _ hbW).mono ?_)
   rintro e w2 ⟨rfl,hb2⟩
   have hrd:=blk_below (blk_alloc (o':=arC0) (blk_new w (rdC a l.length c))) hb2 (by simp; omega)
   have h12:=blk_below (arBox w (rdC a l.length c)) hb2 (by simp)
   have q0:=blk_cell hrd 0
   simp only [List.getElem?_toArray,List.getElem?_cons_zero] at q0
   have hl2:=blk_lt h12
   have hl1:w.heap.size<w2.heap.size:=by omega
   have H12:=Hh h12
   have HB2:=Hh (hbW.trans (hb2.mono hbW.size))
   clear hbW hb2 hrd h12
   go_wp2_with fail
   (with_reducible refine (HRS.out _).mono ?_)
   rintro e w3 ⟨rfl,hb3⟩
   have h13:=blk_below H12.out hb3 hl2
   have HB3:=Hh (HB2.out.trans (hb3.mono HB2.out.size))
   obtain ⟨k0,k1,k2,f0,f1,f2⟩:=cells3 h13
   have H13:=Hh h13
   clear hb3 h13 q0
   go_wp2_with fail
   obtain ⟨g1,g2,g3⟩:=ar_fin (q:=none) (k:=1) (s:=U) H13.out (show OptAt 225 w3 none (.pointer none) from rfl) HB3.out (Nat.le_succ _) _ rfl
   obtain ⟨n0,n1,n2,_⟩:=cells3 g1
   refine bodyPost_ret (v:=.tuple #[.agg #[.int .i64 1,.string U,.pointer none],.int .i64 0,.bool q]) (by simp [results,Tryz.results102,go_sem,n0,n1,n2]) rfl ⟨none,rfl,g2,g3⟩
 · have h1b:((l.length:Int) == 1)=false:=by rw [beq_eq_false_iff_ne]; omega
   rw [decide_eq_false h1,Bool.false_and]
   clear h1
   go_enter Tryz.func102,Tryz.ntmps102
   go_wp2_with fail
   have hbW:Below w.heap.size w ((w.alloc (.cells #[.slice a l.length c] 185)).alloc (.cells #[.int .i64 0,.string ⟨#[]⟩,.pointer none] 84)):=bl
   (with_reducible refine (HW.out _ hbW).mono ?_)
   rintro e w2 ⟨rfl,hb2⟩
   have hrd:=blk_below (blk_alloc (o':=arC0) (blk_new w (rdC a l.length c))) hb2 (by simp; omega)
   have h12:=blk_below (arBox w (rdC a l.length c)) hb2 (by simp)
   have q0:=blk_cell hrd 0
   simp only [List.getElem?_toArray,List.getElem?_cons_zero] at q0
   obtain ⟨k0,k1,k2,f0,f1,f2⟩:=cells3 h12
   have hl2:=blk_lt h12
   have hl1:w.heap.size<w2.heap.size:=by omega
   have H12:=Hh h12
   have HB2:=Hh (hbW.trans (hb2.mono hbW.size))
   clear hbW hb2 hrd h12
   go_wp2_with fail
   obtain ⟨g1,g2,g3⟩:=ar_fin (q:=none) (k:=1) (s:=U) H12.out (show OptAt 225 w2 none (.pointer none) from rfl) HB2.out (Nat.le_succ _) _ rfl
   obtain ⟨n0,n1,n2,_⟩:=cells3 g1
   refine bodyPost_ret (v:=.tuple #[.agg #[.int .i64 1,.string U,.pointer none],.int .i64 0,.bool false]) (by simp [results,Tryz.results102,go_sem,n0,n1,n2]) rfl ⟨none,rfl,g2,g3⟩
set_option maxRecDepth 100000 in
set_option maxHeartbeats 2000000 in
theorem argValue_any (l:List Tok) (v:Value) (w:World) (hr:Row w v l.length (tokc l)) (hs:TokOk l) (hl:l.length≤1000000) :
 Calls Tryz.prog 106 #[rdV v] w (RdRes (exprA 4 ⟨#[]⟩ l) true w):=by
 have hx:=fun X (hb:Below w.heap.size w X)=>expression_any l v 4 ⟨#[]⟩ X (hr.below hb) hs hl
 obtain ⟨x,hxe⟩:∃ x,exprA 4 ⟨#[]⟩ l=x:=⟨_,rfl⟩
 rw [hxe] at hx ⊢
 unfold ArRes at hx
 obtain ⟨⟨kd,tx,ex⟩,cd⟩:=x
 dsimp only at hx
 have HX:=Hh hx; clear hx hxe
 obtain ⟨a,c,rfl,_,_⟩:=hr
 unfold RdRes
 dsimp only
 go_enter Tryz.func106,Tryz.ntmps106
 go_wp2_with fail
 have hbW:Below w.heap.size w ((w.alloc (.cells #[.slice a l.length c] 185)).alloc (.cells #[.int .i64 0,.string ⟨#[]⟩,.pointer none] 84)):=bl
 (with_reducible refine (HX.out _ hbW).mono ?_)
 rintro e w2 ⟨p,rfl,ho,hb2⟩
 have h12:=blk_below (arBox w (rdC a l.length c)) hb2 (by simp)
 obtain ⟨k0,k1,k2,f0,f1,f2⟩:=cells3 h12
 have hl2:=blk_lt h12
 have H12:=Hh h12
 have HO:=Hh ho
 have HB2:=Hh (hbW.trans (hb2.mono hbW.size))
 clear hbW hb2 h12 ho
 go_wp2_with fail
 obtain ⟨g1,g2,g3⟩:=ar_fin (q:=p) (k:=kd) (s:=tx) H12.out HO.out HB2.out (Nat.le_succ _) _ rfl
 have g4:=blk_alloc (o':=.cells #[.int .i64 kd,.string tx,.pointer p] 84) g1
 have g5:=g2.below ((Below.refl _ _).alloc (Nat.le_refl _) (.cells #[.int .i64 kd,.string tx,.pointer p] 84))
 obtain ⟨n0,n1,n2,_⟩:=cells3 g4
 refine bodyPost_ret (v:=.tuple #[.agg #[.int .i64 kd,.string tx,.pointer p],.int .i64 cd,.bool true]) (by simp [results,Tryz.results106,go_sem,n0,n1,n2]) rfl ⟨p,rfl,g5,g3.alloc g3.size _⟩
set_option maxRecDepth 100000 in
set_option maxHeartbeats 2000000 in
theorem place_raw (l M:List Tok) (B:Bool) (v:Value) (w:World) (hr:Row w v l.length (tokc l)) (hs:TokOk l) (hl:l.length≤1000000) (hB:(innerP l).isSome=B) (hM:(innerP l).getD []=M) :
 Calls Tryz.prog 105 #[rdV v] w (RdRes (if B=true then exprA 5 ⟨#[]⟩ M else (ar0,0)) B w):=by
 have hin:=fun X (hb:Below w.heap.size w X)=>inner_any l v X (hr.below hb) hl
 have hMs:TokOk M:=by rw [←hM]; exact inner_ok hs
 have hMl:M.length≤1000000:=by rw [←hM]; exact Nat.le_trans (inner_len l) hl
 rw [hB,hM] at hin
 have hx:=fun X v2 h=>expression_any M v2 5 ⟨#[]⟩ X h hMs hMl
 have HIN:=Hh hin; clear hin hB hM hMs hMl
 obtain ⟨a,c,rfl,_,_⟩:=hr
 unfold RdRes
 cases B with
 | false =>
   rw [if_neg (by decide)]
   clear hx
   show Calls Tryz.prog 105 #[rdV (.slice a l.length c)] w fun e w'=>∃ p,e=.returned (.tuple #[.agg #[.int .i64 0,.string ⟨#[]⟩,.pointer p],.int .i64 0,.bool false])∧OptAt 225 w' none (.pointer p)∧Below w.heap.size w w'
   go_enter Tryz.func105,Tryz.ntmps105
   go_wp2_with fail
   have hbW:Below w.heap.size w ((w.alloc (.cells #[.slice a l.length c] 185)).alloc (.cells #[.int .i64 0,.string ⟨#[]⟩,.pointer none] 84)):=bl
   (with_reducible refine (HIN.out _ hbW).mono ?_)
   rintro e w2 ⟨ai,ni,ci,rfl,hri,hb2⟩
   have h12:=blk_below (arBox w (rdC a l.length c)) hb2 (by simp)
   obtain ⟨k0,k1,k2,f0,f1,f2⟩:=cells3 h12
   have hl2:=blk_lt h12
   have H12:=Hh h12
   have HB2:=Hh (hbW.trans (hb2.mono hbW.size))
   clear hbW hb2 h12 hri
   go_wp2_with fail
   obtain ⟨g1,g2,g3⟩:=ar_fin (q:=none) (k:=0) (s:=⟨#[]⟩) H12.out (show OptAt 225 w2 none (.pointer none) from rfl) HB2.out (Nat.le_succ _) _ rfl
   have g4:=blk_alloc (o':=.cells #[.slice ai ni ci] 185) g1
   obtain ⟨n0,n1,n2,_⟩:=cells3 g4
   refine bodyPost_ret (v:=.tuple #[.agg #[.int .i64 0,.string ⟨#[]⟩,.pointer none],.int .i64 0,.bool false]) (by simp [results,Tryz.results105,go_sem,n0,n1,n2]) rfl ⟨none,rfl,rfl,g3.alloc g3.size _⟩
 | true =>
   rw [if_pos rfl]
   obtain ⟨x,hxe⟩:∃ x,exprA 5 ⟨#[]⟩ M=x:=⟨_,rfl⟩
   rw [hxe] at hx ⊢
   unfold ArRes at hx
   obtain ⟨⟨kd,tx,ex⟩,cd⟩:=x
   dsimp only at hx ⊢
   have HX:=Hh hx; clear hx hxe
   go_enter Tryz.func105,Tryz.ntmps105
   go_wp2_with fail
   have hbW:Below w.heap.size w ((w.alloc (.cells #[.slice a l.length c] 185)).alloc (.cells #[.int .i64 0,.string ⟨#[]⟩,.pointer none] 84)):=bl
   (with_reducible refine (HIN.out _ hbW).mono ?_)
   rintro e w2 ⟨ai,ni,ci,rfl,hri,hb2⟩
   have h12:=blk_below (arBox w (rdC a l.length c)) hb2 (by simp)
   have hl2:=blk_lt h12
   have H12:=Hh h12
   have HRI:=Hh hri
   have HB2:=Hh (hbW.trans (hb2.mono hbW.size))
   clear hbW hb2 h12 hri
   go_wp2_with fail
   have hal:Below w2.heap.size w2 (w2.alloc (.cells #[.slice ai ni ci] 185)):=(Below.refl _ _).alloc (Nat.le_refl _) _
   have hn:ni=M.length:=by obtain ⟨_,_,h,_⟩:=HRI.out; cases h; rfl
   (with_reducible refine (HX.out _ _ (HRI.out.below hal)).mono ?_)
   rintro e w3 ⟨p,rfl,ho,hb3⟩
   have hb23:=hal.trans (hb3.mono hal.size)
   have h13:=blk_below H12.out hb23 hl2
   obtain ⟨k0,k1,k2,f0,f1,f2⟩:=cells3 h13
   have hl3:=blk_lt h13
   have H13:=Hh h13
   have HO:=Hh ho
   have HB3:=Hh (HB2.out.trans (hb23.mono HB2.out.size))
   clear hal hb23 hb3 h13 ho hn
   go_wp2_with fail
   obtain ⟨g1,g2,g3⟩:=ar_fin (q:=p) (k:=kd) (s:=tx) H13.out HO.out HB3.out (Nat.le_succ _) _ rfl
   have g4:=blk_alloc (o':=.cells #[.int .i64 kd,.string tx,.pointer p] 84) g1
   have g5:=g2.below ((Below.refl _ _).alloc (Nat.le_refl _) (.cells #[.int .i64 kd,.string tx,.pointer p] 84))
   obtain ⟨n0,n1,n2,_⟩:=cells3 g4
   refine bodyPost_ret (v:=.tuple #[.agg #[.int .i64 kd,.string tx,.pointer p],.int .i64 cd,.bool true]) (by simp [results,Tryz.results105,go_sem,n0,n1,n2]) rfl ⟨p,rfl,g5,g3.alloc g3.size _⟩
set_option maxRecDepth 100000 in
set_option maxHeartbeats 2000000 in
theorem point_raw (l M:List Tok) (B:Bool) (v:Value) (w:World) (hr:Row w v l.length (tokc l)) (hs:TokOk l) (hl:l.length≤1000000) (hB:(innerP l).isSome=B) (hM:(innerP l).getD []=M) :
 Calls Tryz.prog 103 #[rdV v] w (RdRes (⟨2,wordAt M 0,none⟩,0) (B && decide (M.length=1) && (regP (wordAt M 0)).isSome) w):=by
 have hin:=fun X (hb:Below w.heap.size w X)=>inner_any l v X (hr.below hb) hl
 have hMs:TokOk M:=by rw [←hM]; exact inner_ok hs
 rw [hB,hM] at hin
 have hw:∀ X v2,Row X v2 M.length (tokc M)→Calls Tryz.prog 179 #[rdV v2,.int .i64 0] X fun e w'=>e=.returned (.string (wordAt M 0))∧Below X.heap.size X w':=fun X v2 h=>argWord_any M 0 v2 X h (by omega) (fun t ht=>by have:=(hMs t ht).1; unfold maxLen; omega)
 have hrg:=fun X=>argReg_any (wordAt M 0) X (by have:=wordAt_size hMs 0; unfold maxLen; omega)
 obtain ⟨U,hU⟩:∃ U,wordAt M 0=U:=⟨_,rfl⟩
 rw [hU] at hw hrg ⊢
 obtain ⟨q,hq⟩:∃ q,regP U=q:=⟨_,rfl⟩
 rw [hq] at hrg ⊢
 have hrg2:∃ r:Int,∀ X,Calls Tryz.prog 181 #[.string U] X fun e w'=>e=.returned (.tuple #[.int .i64 r,.bool q.isSome])∧Below X.heap.size X w':=by
  cases q with
  | none=>exact ⟨0,hrg⟩
  | some r=>exact ⟨r,hrg⟩
 obtain ⟨r,hrg3⟩:=hrg2
 obtain ⟨t,ht⟩:∃ t,q.isSome=t:=⟨_,rfl⟩
 rw [ht] at hrg3 ⊢
 have HIN:=Hh hin; have HW:=Hh hw; have HRG:=Hh hrg3
 clear hin hw hrg hrg3 hq hU hMs hB hM ht
 obtain ⟨a,c,rfl,_,_⟩:=hr
 obtain ⟨z,hz⟩:∃ z,(B && decide (M.length=1) && t)=z:=⟨_,rfl⟩
 rw [hz]
 unfold RdRes
 dsimp only
 have hone:((M.length:Int) == 1)=decide (M.length=1):=by by_cases h:M.length=1<;>simp [h]<;>omega
 have HZ:=Hh (show (B && ((M.length:Int) == 1) && t)=z by rw [hone]; exact hz)
 clear hz hone
 go_enter Tryz.func103,Tryz.ntmps103
 go_wp2_with fail
 have hbW:Below w.heap.size w ((w.alloc (.cells #[.slice a l.length c] 185)).alloc (.cells #[.int .i64 0,.string ⟨#[]⟩,.pointer none] 84)):=bl
 (with_reducible refine (HIN.out _ hbW).mono ?_)
 rintro e w2 ⟨ai,ni,ci,rfl,hri,hb2⟩
 have h12:=blk_below (arBox w (rdC a l.length c)) hb2 (by simp)
 have hl2:=blk_lt h12
 have hn:ni=M.length:=by obtain ⟨_,_,h,_⟩:=hri; cases h; rfl
 subst hn
 have H12:=Hh h12
 have HRI:=Hh hri
 have HB2:=Hh (hbW.trans (hb2.mono hbW.size))
 clear hbW hb2 h12 hri
 go_wp2_with fail
 have hal:Below w2.heap.size w2 (w2.alloc (.cells #[.slice ai M.length ci] 185)):=(Below.refl _ _).alloc (Nat.le_refl _) _
 have hib:=blk_new w2 (.cells #[.slice ai M.length ci] 185)
 (with_reducible refine (HW.out _ _ (HRI.out.below hal)).mono ?_)
 rintro e w3 ⟨rfl,hb3⟩
 have hb23:=hal.trans (hb3.mono hal.size)
 have hib3:=blk_below hib hb3 (by rw [World.size_alloc]; omega)
 have h13:=blk_below H12.out hb23 hl2
 have hli:=blk_lt hib3
 have hl3:=blk_lt h13
 have H13:=Hh h13; have HIB:=Hh hib3
 have HB3:=Hh (HB2.out.trans (hb23.mono HB2.out.size))
 clear hal hb23 hb3 h13 hib hib3
 go_wp2_with fail
 (with_reducible refine (HRG.out _).mono ?_)
 rintro e w4 ⟨rfl,hb4⟩
 have h14:=blk_below H13.out hb4 hl3
 have hib4:=blk_below HIB.out hb4 hli
 obtain ⟨k0,k1,k2,f0,f1,f2⟩:=cells3 h14
 have q0:=blk_cell hib4 0
 simp only [List.getElem?_toArray,List.getElem?_cons_zero] at q0
 have hl4:=blk_lt h14
 have hli4:=blk_lt hib4
 have H14:=Hh h14
 have HB4:=Hh (HB3.out.trans (hb4.mono HB3.out.size))
 clear hb4 h14 hib4
 obtain ⟨g1,g2,g3⟩:=ar_fin (q:=none) (k:=2) (s:=U) H14.out (show OptAt 225 w4 none (.pointer none) from rfl) HB4.out (Nat.le_succ _) _ rfl
 have HG1:=Hh g1; have HG2:=Hh g2; have HG3:=Hh g3
 clear g1 g2 g3
 cases B with
 | false =>
   obtain rfl:z=false:=by rw [←HZ.out]; simp
   go_wp2_with fail
   obtain ⟨n0,n1,n2,_⟩:=cells3 HG1.out
   refine bodyPost_ret (v:=.tuple #[.agg #[.int .i64 2,.string U,.pointer none],.int .i64 0,.bool false]) (by simp [results,Tryz.results103,go_sem,n0,n1,n2]) rfl ⟨none,rfl,HG2.out,HG3.out⟩
 | true =>
   rcases hm:((M.length:Int) == 1) with _ | _
   · obtain rfl:z=false:=by rw [←HZ.out,hm]; simp
     go_wp2_with fail
     obtain ⟨n0,n1,n2,_⟩:=cells3 HG1.out
     refine bodyPost_ret (v:=.tuple #[.agg #[.int .i64 2,.string U,.pointer none],.int .i64 0,.bool false]) (by simp [results,Tryz.results103,go_sem,n0,n1,n2]) rfl ⟨none,rfl,HG2.out,HG3.out⟩
   · obtain rfl:z=t:=by rw [←HZ.out,hm]; simp
     go_wp2_with fail
     obtain ⟨n0,n1,n2,_⟩:=cells3 HG1.out
     refine bodyPost_ret (v:=.tuple #[.agg #[.int .i64 2,.string U,.pointer none],.int .i64 0,.bool z]) (by simp [results,Tryz.results103,go_sem,n0,n1,n2]) rfl ⟨none,rfl,HG2.out,HG3.out⟩
end Go.Proofs.YtkldoojonnkfgaaGreatDoor
