/- Joined texts: Line17, LineT. -/
import Derived.Test.YtkldoojonnkfgaaGreatDoorC41
import Derived.Test.YtkldoojonnkfgaaGreatDoorC45
namespace Go.Proofs.YtkldoojonnkfgaaGreatDoor
open Go.RowKit Go.Sort
theorem toksGo_code (s:ByteArray) (i:Nat) (acc:List Tok) (c:Int) (h:toksGo s i acc=.error c):c=3∨c=20:=by
 by_cases h1:moreAt s (skipEnd s i)=true
 · cases hn:nextP s (skipEnd s i) with
   | error e =>
     rw [toksGo_err s i acc e h1 hn] at h
     cases h
     exact nextP_err s _ c hn
   | ok x =>
     obtain ⟨t,n⟩:=x
     have hl:=moreAt_lt h1
     have hb:=nextP_bd s _ hl t n hn
     have hg:=skipEnd_ge s i
     rw [toksGo_step s i acc t n h1 hn] at h
     exact toksGo_code s n (acc++[t]) c h
 · rw [toksGo_end s i acc (by simpa using h1)] at h
   cases h
termination_by s.size - i
theorem toksP_code {s:ByteArray} {c:Int} (h:toksP s=.error c):c=3∨c=20∨c=19:=by
 unfold toksP at h
 split at h
 · cases h; exact .inr (.inr rfl)
 · rcases toksGo_code s 0 [] c h with h | h
   · exact .inl h
   · exact .inr (.inl h)
theorem toksP_ok {s:ByteArray} {l:List Tok} (h:toksP s=.ok l):TokOk l∧1≤l.length∧l.length≤1025:=by
 unfold toksP at h
 split at h
 · cases h
 · rename_i hs
   have hl:=toksGo_len s 0 [] l (Nat.zero_le _) h
   refine ⟨toksGo_all s 0 [] l h _ (fun t ht=>by cases ht) (fun j=>⟨Nat.zero_le _,Int.le_refl _,by show (0:Int)≤65535; decide⟩) (fun j n t hj hn=>?_),by simpa using hl.1,by have:=hl.2; simp at this; omega⟩
   have:=nextP_bd s j hj t n hn
   exact ⟨by omega,this.2.2.2.1,this.2.2.2.2⟩
theorem TokOk.sub {l:List Tok} (h:TokOk l):TokOk l.dropLast:=fun t ht=>h t (List.dropLast_subset l ht)
def LineRes (x:Stm × Int) (w:World) (e:Ending) (w':World):Prop:=∃ va vp,e=.returned (.tuple #[.agg #[.string x.1.label,.string ⟨x.1.op.toArray⟩,va,vp],.int .i64 x.2])∧StmV w' x.1 va vp∧Below w.heap.size w w'
theorem stmV0 (w:World):StmV w stm0 (.slice none 0 0) (.slice none 0 0):=⟨[],[],rfl,Row.none0 _,by simp,rfl,Row.none0 _,by simp⟩
theorem StmV.kb {w w':World} {b:Nat} {x:Stm} {va vp:Value} {C:Array Value} {T2:TypeId} (h:StmV w x va vp) (hk:Kb b w w') (hb:w.heap[b]? = some (.cells C T2 (0,0))) (hT:T2≠225) (hC:∀ (i:Nat) (y:Value),C[i]? = some y→(∀ k n,y≠.int k n)∧∀ q,y≠.pointer q):StmV w' x va vp:=by
 obtain ⟨vs,ps,h1,h2,h3,h4,h5,h6⟩:=h
 refine ⟨vs,ps,h1,h2.kbC hk 0 (fun hne=>List.length_pos_iff.2 hne) (fun o hne=>?_),fun y hy=>(h3 y hy).kbT hk hb hT,h4,h5.kbC hk 1 (fun hne=>?_) (fun o hne=>?_),fun y hy=>(h6 y hy).kbT hk hb hT⟩
 · rw [blk_cell hb]
   cases vs with
   | nil=>exact absurd rfl hne
   | cons y l=>exact fun e=>(hC _ _ e).1 _ _ rfl
 · cases ps with
   | nil=>exact absurd rfl hne
   | cons y l=>simp [ptc]
 · rw [blk_cell hb]
   cases ps with
   | nil=>exact absurd rfl hne
   | cons y l=>exact fun e=>(hC _ _ e).2 _ rfl
theorem dataP_bad {lab:ByteArray} {d:List UInt8} {l:List Tok} (h:(dataP lab d l).2≠0):(dataP lab d l).1=stm0:=by
 unfold dataP at h ⊢
 by_cases h1:(partsGo d (splitP l)).2≠0
 · rw [if_pos h1]
 · rw [if_neg h1] at h ⊢
   by_cases h2:countP d (partsGo d (splitP l)).1.length=false
   · rw [if_pos h2]
   · rw [if_neg h2] at h ⊢
     by_cases h3:d=wEQU∧lab.size=0
     · rw [if_pos h3]
     · rw [if_neg h3] at h
       exact absurd rfl h
theorem codeP_bad {lab op:ByteArray} {l:List Tok} (h:(codeP lab op l).2≠0):(codeP lab op l).1=stm0:=by
 unfold codeP at h ⊢
 by_cases h1:(argsP l).2≠0
 · rw [if_pos h1]
 · rw [if_neg h1] at h ⊢
   by_cases h2:3<(argsP l).1.length
   · rw [if_pos h2]
   · rw [if_neg h2] at h ⊢
     by_cases h3:(chooseP (upL op) (argsP l).1).2≠0
     · rw [if_pos h3]
     · rw [if_neg h3] at h
       exact absurd rfl h
theorem restP_bad {lab:ByteArray} {l:List Tok} (h:(restP lab l).2≠0):(restP lab l).1=stm0:=by
 cases l with
 | nil=>exact absurd rfl h
 | cons t r =>
   have e:restP lab (t::r)=if signIs t [61]=true then dataP lab wEQU r else if t.kind≠1 then (stm0,3) else if dirP t.text≠[] then dataP lab (dirP t.text) r else if upL t.text∉opsL then (stm0,12) else codeP lab t.text r:=rfl
   rw [e] at h ⊢
   by_cases h1:signIs t [61]=true
   · rw [if_pos h1] at h ⊢; exact dataP_bad h
   · rw [if_neg h1] at h ⊢
     by_cases h2:t.kind≠1
     · rw [if_pos h2]
     · rw [if_neg h2] at h ⊢
       by_cases h3:dirP t.text≠[]
       · rw [if_pos h3] at h ⊢; exact dataP_bad h
       · rw [if_neg h3] at h ⊢
         by_cases h4:upL t.text∉opsL
         · rw [if_pos h4]
         · rw [if_neg h4] at h ⊢; exact codeP_bad h
theorem stmtP_bad {l:List Tok} (h:(stmtP l).2≠0):(stmtP l).1=stm0:=by
 unfold stmtP at h ⊢
 split
 · rfl
 · rename_i hn
   rw [if_neg hn] at h
   exact restP_bad h
set_option maxRecDepth 100000 in
set_option maxHeartbeats 8000000 in
theorem line_any (s:ByteArray) (w:World) (hT:TabsA w):Calls Tryz.prog 24 #[.string s] w (LineRes (lineP s) w):=by
 have htk:=fun W=>toks_any s W
 unfold TokRes at htk
 unfold lineP
 rcases hx:toksP s with c | l
 · rw [hx] at htk
   have hc:c≠0:=by rcases toksP_code hx with h | h | h<;>omega
   have hcn:(c != 0)=true:=by simpa using hc
   have HTK:=Hh htk
   clear htk hx hc
   go_enter Tryz.func24,Tryz.ntmps24
   go_wp2_with fail
   (with_reducible refine (HTK.out _).mono ?_)
   rintro e w1 ⟨rfl,hb1⟩
   have hblk:=blk_below (blk_new w (.cells #[.string ⟨#[]⟩,.string ⟨#[]⟩,.slice none 0 0,.slice none 0 0] 59)) hb1 (by simp)
   have hbw:Below w.heap.size w w1:=Below.trans (bl) (hb1.mono (by simp))
   have c0:=blk_cell hblk 0
   have c1:=blk_cell hblk 1
   have c2:=blk_cell hblk 2
   have c3:=blk_cell hblk 3
   have f0:=blk_frozen hblk
   have f00:=f0 0
   have f01:=f0 1
   have f02:=f0 2
   have f03:=f0 3
   have hlt:=blk_lt hblk
   have HBW:=Hh hbw
   clear hb1 hblk hbw f0
   go_wp2_with fail
   refine bodyPost_ret (v:=.tuple #[.agg #[.string ⟨#[]⟩,.string ⟨#[]⟩,.slice none 0 0,.slice none 0 0],.int .i64 c]) (by simp [results,Tryz.results24,go_sem, *]) rfl ?_
   have hbb:=HBW.out
   refine ⟨_,_,rfl,stmV0 _,?_⟩
   (repeat (first | exact Below.refl _ _ | refine Below.drew ?_ | (refine below_gw' ?_ (by first | omega | (simp [go_sem]; done) | (simp [go_sem]; omega)) _) | (refine Below.alloc ?_ (by first | omega | (simp [go_sem]; done) | (simp [go_sem]; omega)) _) | (refine Below.setCell ?_ (by first | omega | (simp [go_sem]; done) | (simp [go_sem]; omega)) _)))
   exact hbb
 · obtain ⟨hok,h1,h2⟩:=toksP_ok hx
   rw [hx] at htk
   dsimp only at htk ⊢
   have hok2:TokOk l.dropLast:=fun t ht=>hok t (List.dropLast_subset l ht)
   have hst:=fun W b (hb:Below w.heap.size w W) (o:Obj) (hbW:b=W.heap.size) (h:LP (W.alloc o) b l.dropLast ⟨#[]⟩ ⟨#[]⟩ (.slice none 0 0) (.slice none 0 0))=>statement_any l.dropLast b (W.alloc o) (fun X hX=>hT.below (hb.trans ((Kb.new (u:=W) (o:=o) (by rw [←hbW]; exact hX)).mono hb.size))) h hok2 (by simp; omega)
   have hne:l≠[]:=by rintro rfl; simp at h1
   have hdl:(l.take (l.length - 1)).drop 0=l.dropLast:=by rw [List.drop_zero,List.dropLast_eq_take]
   have hlen:l.dropLast.length=l.length - 1:=List.length_dropLast
   have hbad:=@stmtP_bad l.dropLast
   generalize hSP:stmtP l.dropLast=SP at *
   obtain ⟨X,cd⟩:=SP
   have HBAD:=Hh hbad; clear hbad
   have HTK:=Hh htk; have HST:=Hh hst
   clear htk hst hx hok hok2 hT hSP
   go_enter Tryz.func24,Tryz.ntmps24
   go_wp2_with fail
   (with_reducible refine (HTK.out _).mono ?_)
   rintro e w1 ⟨v1,rfl,hr1,hb1⟩
   have hblk:=blk_below (blk_new w (.cells #[.string ⟨#[]⟩,.string ⟨#[]⟩,.slice none 0 0,.slice none 0 0] 59)) hb1 (by simp)
   have hbw:Below w.heap.size w w1:=Below.trans (bl) (hb1.mono (by simp))
   obtain ⟨g,o,cap,rfl,hcap,hg,_,hsub⟩:=hr1.tok2 hne
   have hsb:=hsub 0 (l.length - 1) (some ⟨g,o,none⟩) cap (Nat.zero_le _) (by omega) (fun _=>by simp) (by omega)
   rw [hdl,Nat.sub_zero] at hsb
   obtain ⟨m,hm⟩:∃ m,l.length=m+1:=⟨l.length - 1,by omega⟩
   rw [hm,Nat.add_sub_cancel] at hsb hlen
   rw [hm] at hcap ⊢
   have HSB:=Hh hsb; have HBW:=Hh hbw; have HBLK:=Hh hblk
   have hci:(m:Int)+1≤(cap:Int):=by omega
   have hci2:(m:Int)≤(cap:Int):=by omega
   have hmi:(m:Int)≤1025:=by omega
   clear hr1 hb1 hblk hbw hsub hsb hdl hm
   have hLP:LP (w1.alloc (.cells #[.slice (some ⟨g,o,none⟩) m cap,.string ⟨#[]⟩,.string ⟨#[]⟩,.slice none 0 0,.slice none 0 0] 118)) w1.heap.size l.dropLast ⟨#[]⟩ ⟨#[]⟩ (.slice none 0 0) (.slice none 0 0):=by
    refine ⟨some ⟨g,o,none⟩,cap,?_,?_,fun _ g' o' e=>by cases e; omega⟩
    · rw [hlen]; exact blk_new _ _
    · have h:=HSB.out
      rw [←hlen] at h
      simp only [hlen] at h ⊢
      exact h.below ((Below.refl _ _).alloc (Nat.le_refl _) _)
   have HLP:=Hh hLP
   have hwl:=blk_lt HBLK.out
   clear hLP hlen
   go_wp2_with fail
   (with_reducible refine (HST.out w1 w1.heap.size HBW.out _ rfl HLP.out).mono ?_)
   rintro e w2 ⟨rfl,hk,hx⟩
   have hbn:=Kb.new hk
   have hblk2:=blk_below HBLK.out hbn hwl
   have hbw2:=HBW.out.trans (hbn.mono HBW.out.size)
   have c0:w2.cell? ⟨w.heap.size,0,none⟩=some (.string ⟨#[]⟩):=blk_cell hblk2 0
   have c1:w2.cell? ⟨w.heap.size,1,none⟩=some (.string ⟨#[]⟩):=blk_cell hblk2 1
   have c2:w2.cell? ⟨w.heap.size,2,none⟩=some (.slice none 0 0):=blk_cell hblk2 2
   have c3:w2.cell? ⟨w.heap.size,3,none⟩=some (.slice none 0 0):=blk_cell hblk2 3
   have f0:=blk_frozen hblk2
   have f00:=f0 0
   have f01:=f0 1
   have f02:=f0 2
   have f03:=f0 3
   have hlt:=blk_lt hblk2
   have HBW2:=Hh hbw2; have HBLK2:=Hh hblk2
   clear hk hbn hblk2 hbw2 f0
   by_cases hcd:cd=0
   · subst hcd
     obtain ⟨vl,va,vp,hpb,hst⟩:=hx rfl
     obtain ⟨aa,na,ca,rfl⟩:∃ a n c,va=.slice a n c:=by
      obtain ⟨_,_,_,⟨a,c,h,_⟩,_⟩:=hst
      exact ⟨_,_,_,h⟩
     obtain ⟨ap,np,cp,rfl⟩:∃ a n c,vp=.slice a n c:=by
      obtain ⟨_,_,_,_,_,_,⟨a,c,h,_⟩,_⟩:=hst
      exact ⟨_,_,_,h⟩
     have d1:w2.cell? ⟨w1.heap.size,1,none⟩=some (.string X.label):=blk_cell hpb 1
     have d2:w2.cell? ⟨w1.heap.size,2,none⟩=some (.string ⟨X.op.toArray⟩):=blk_cell hpb 2
     have d3:w2.cell? ⟨w1.heap.size,3,none⟩=some (.slice aa na ca):=blk_cell hpb 3
     have d4:w2.cell? ⟨w1.heap.size,4,none⟩=some (.slice ap np cp):=blk_cell hpb 4
     have hne:¬ w1.heap.size=w.heap.size:=by omega
     have HSTV:=Hh hst
     clear hx hpb hst
     obtain ⟨lb,hlb⟩:∃ lb,X.label=lb:=⟨_,rfl⟩
     obtain ⟨xo,hxo⟩:∃ xo:ByteArray,(⟨X.op.toArray⟩:ByteArray)=xo:=⟨_,rfl⟩
     rw [hlb] at d1
     rw [hxo] at d2
     have HLB:=Hh hlb; have HXO:=Hh hxo
     clear hlb hxo
     go_wp2_with fail
     refine bodyPost_ret (v:=.tuple #[.agg #[.string lb,.string xo,.slice aa na ca,.slice ap np cp],.int .i64 0]) (by simp [results,Tryz.results24,go_sem, *]) rfl ?_
     refine ⟨.slice aa na ca,.slice ap np cp,by rw [HLB.out,HXO.out],?_,?_⟩
     · refine HSTV.out.kb (b:=w.heap.size) ((((Kb.refl _ _).setCell 0 _).setCell 1 _ |>.setCell 2 _).setCell 3 _) HBLK2.out (by decide) ?_
       intro i y hy
       match i,hy with
       | 0,hy=>cases hy; exact ⟨fun k n e=>(by cases e),fun q e=>(by cases e)⟩
       | 1,hy=>cases hy; exact ⟨fun k n e=>(by cases e),fun q e=>(by cases e)⟩
       | 2,hy=>cases hy; exact ⟨fun k n e=>(by cases e),fun q e=>(by cases e)⟩
       | 3,hy=>cases hy; exact ⟨fun k n e=>(by cases e),fun q e=>(by cases e)⟩
       | i+4,hy=>simp at hy
     · have hbb:=HBW2.out
       (repeat (first | exact Below.refl _ _ | refine Below.drew ?_ | (refine below_gw' ?_ (by first | omega | (simp [go_sem]; done) | (simp [go_sem]; omega)) _) | (refine Below.alloc ?_ (by first | omega | (simp [go_sem]; done) | (simp [go_sem]; omega)) _) | (refine Below.setCell ?_ (by first | omega | (simp [go_sem]; done) | (simp [go_sem]; omega)) _)))
       exact hbb
   · have hcn:(cd != 0)=true:=by simpa using hcd
     have HX0:=Hh (HBAD.out hcd)
     have HCD:=Hh hcd
     clear hx hcd
     go_wp2_with fail
     refine bodyPost_ret (v:=.tuple #[.agg #[.string ⟨#[]⟩,.string ⟨#[]⟩,.slice none 0 0,.slice none 0 0],.int .i64 cd]) (by simp [results,Tryz.results24,go_sem, *]) rfl ?_
     have hbb:=HBW2.out
     have hx0:X=stm0:=HX0.out
     subst hx0
     refine ⟨_,_,rfl,stmV0 _,?_⟩
     (repeat (first | exact Below.refl _ _ | refine Below.drew ?_ | (refine below_gw' ?_ (by first | omega | (simp [go_sem]; done) | (simp [go_sem]; omega)) _) | (refine Below.alloc ?_ (by first | omega | (simp [go_sem]; done) | (simp [go_sem]; omega)) _) | (refine Below.setCell ?_ (by first | omega | (simp [go_sem]; done) | (simp [go_sem]; omega)) _)))
     exact hbb
end Go.Proofs.YtkldoojonnkfgaaGreatDoor
