/- Joined texts: Cut, Texts1, ArgU, ParseT, Lookup, FindT, BothT. -/
import Derived.Test.YtkldoojonnkfgaaGreatDoorC24
import Derived.Test.YtkldoojonnkfgaaGreatDoorC25
import Derived.RangeFuncBound
namespace Go.Proofs.YtkldoojonnkfgaaGreatDoor
open Go.RowKit Go.Sort
theorem cut_one_no {l:List UInt8} {c:UInt8} (h:Lib.indexByte l c<0):Lib.cut l [c]=(l,[],false):=by
 unfold Lib.cut
 rw [Lib.index_one,if_neg (by omega)]
theorem cut_one_yes {l:List UInt8} {c:UInt8} (h:0≤Lib.indexByte l c):Lib.cut l [c]=(l.take (Lib.indexByte l c).toNat,l.drop ((Lib.indexByte l c).toNat+1),true):=by
 unfold Lib.cut
 rw [Lib.index_one,if_pos (by omega)]
 rfl
theorem ext_take (s:ByteArray) (o:Nat):s.extract 0 o=⟨(s.data.toList.take o).toArray⟩:=by
 apply ByteArray.ext
 rw [ByteArray.data_extract]
 apply Array.toList_inj.1
 rw [Array.toList_extract]
 simp [List.extract]
theorem ext_drop (s:ByteArray) (o:Nat):s.extract o s.size=⟨(s.data.toList.drop o).toArray⟩:=by
 apply ByteArray.ext
 rw [ByteArray.data_extract]
 apply Array.toList_inj.1
 rw [Array.toList_extract]
 simp only [List.extract]
 rw [List.take_of_length_le (by rw [List.length_drop,Array.length_toList]; exact Nat.le_refl _)]
set_option maxHeartbeats 400000 in
theorem cut1_lite (s:ByteArray) (c:UInt8) (w:World) (hs:s.size≤100000000) :
 Calls Tryz.prog 318 #[.string s,.string ⟨#[c]⟩] w fun e w'=>e=.returned (.tuple #[.string ⟨(Lib.cut s.data.toList [c]).1.toArray⟩,.string ⟨(Lib.cut s.data.toList [c]).2.1.toArray⟩,.bool (Lib.cut s.data.toList [c]).2.2])∧∃ n,w'=w.drewN n:=by
 obtain ⟨i,hi⟩:∃ i,Lib.indexByte s.data.toList c=i:=⟨_,rfl⟩
 have hge:=Lib.indexByte_ge s.data.toList c
 have hidx:=Tryz.stringslite_Index_one s c w
 rw [hi] at hidx hge
 have HIDX:=Hh hidx; clear hidx
 by_cases h0:0≤i
 · have hlt:i<s.size:=by
    obtain ⟨o,rfl⟩:=Int.eq_ofNat_of_zero_le h0
    have:=(Lib.indexByte_some hi).1
    have h2:=(List.getElem?_eq_some_iff.1 this).1
    have h3:s.data.toList.length=s.size:=by show s.data.toList.length=s.data.size; rw [Array.length_toList]
    omega
   have hcut:=cut_one_yes (l:=s.data.toList) (c:=c) (by rw [hi]; exact h0)
   rw [hi] at hcut
   rw [hcut]
   obtain ⟨o,rfl⟩:=Int.eq_ofNat_of_zero_le h0
   have HI:=Hh hi; clear hi hcut
   have w1:IntKind.i64.wrap ((o:Int)+1)=(o:Int)+1:=IntWalk.i64_in _ (by omega)
   go_enter Tryz.func318,Tryz.ntmps318
   go_wp2_with fail
   refine HIDX.out.mono ?_
   rintro e w1 ⟨rfl,rfl⟩
   go_wp2_with fail
   go_quiet (fail)
   go_wp2_with fail
   go_ret3
   refine ⟨?_,_,rfl⟩
   show Ending.returned (.tuple #[.string (s.extract 0 o),.string (s.extract (o+1) s.size),.bool true])=_
   rw [ext_take,ext_drop]
   rfl
 · have hcut:=cut_one_no (l:=s.data.toList) (c:=c) (by rw [hi]; omega)
   rw [hcut]
   clear hcut hi
   go_enter Tryz.func318,Tryz.ntmps318
   go_wp2_with fail
   refine HIDX.out.mono ?_
   rintro e w1 ⟨rfl,rfl⟩
   go_wp2_with fail
   go_ret3
   exact ⟨rfl,0,rfl⟩
set_option maxHeartbeats 400000 in
theorem cut1_any (s:ByteArray) (c:UInt8) (w:World) (hs:s.size≤100000000) :
 Calls Tryz.prog 255 #[.string s,.string ⟨#[c]⟩] w fun e w'=>e=.returned (.tuple #[.string ⟨(Lib.cut s.data.toList [c]).1.toArray⟩,.string ⟨(Lib.cut s.data.toList [c]).2.1.toArray⟩,.bool (Lib.cut s.data.toList [c]).2.2])∧∃ n,w'=w.drewN n:=by
 generalize hR:Lib.cut s.data.toList [c]=R
 have h:=cut1_lite s c w hs
 rw [hR] at h
 clear hR
 have H:=Hh h; clear h
 go_enter Tryz.func255,Tryz.ntmps255
 go_wp2_with fail
 refine H.out.mono ?_
 rintro e w1 ⟨rfl,n,rfl⟩
 go_wp2_with fail
 go_ret3
 exact ⟨rfl,n,rfl⟩
end Go.Proofs.YtkldoojonnkfgaaGreatDoor
namespace Go.Proofs.YtkldoojonnkfgaaGreatDoor
open Go.RowKit Go.Sort Go.Shelf
attribute [local go_sem] Oper.semAt_some
abbrev RA:={ r:Rule // r∈allR }
def joinA (l:List RA):ByteArray:=⟨(joinT (l.map (·.1.text))).toArray⟩
def StrB (b:Nat) (W:World) (s:ByteArray):Prop:=W.heap[b]? = some (.cells #[.string s] 9 (0,0))
theorem StrB.cell {b:Nat} {W:World} {s:ByteArray} (h:StrB b W s):W.cell? ⟨b,0,none⟩=some (.string s):=by unfold StrB at h; simp [World.cell?,h]
theorem StrB.frozen {b:Nat} {W:World} {s:ByteArray} (h:StrB b W s):W.frozen? ⟨b,0,none⟩=false:=by unfold StrB at h; simp [World.frozen?,h]
theorem StrB.lt {b:Nat} {W:World} {s:ByteArray} (h:StrB b W s):b<W.heap.size:=(Array.getElem?_eq_some_iff.1 h).1
theorem StrB.set {b:Nat} {W:World} {s t:ByteArray} (h:StrB b W s):StrB b (W.setCell ⟨b,0,none⟩ (.string t)) t:=by
 unfold StrB at *
 show (W.heap.modify b _)[b]? = _
 rw [Array.getElem?_eq_getElem (by rw [Array.size_modify]; exact (Array.getElem?_eq_some_iff.1 h).1),Array.getElem_modify_self,(Array.getElem?_eq_some_iff.1 h).2]
 rfl
theorem StrB.below {b n:Nat} {A B:World} {s:ByteArray} (h:StrB b A s) (hb:Below n A B) (hn:b<n):StrB b B s:=(hb.block b hn).trans h
theorem Kb.drewN {b:Nat} {u w:World} (h:Kb b u w) (n:Nat):Kb b u (w.drewN n):=⟨h.os,h.tape,h.output,h.size,h.block⟩
def StB (b:Nat) (A B:World):Prop:=Kb b A B∧∃ s,StrB b A s
def KeepB (b:Nat) (A B:World):Prop:=B.heap[b]? = A.heap[b]?
theorem keepB_t {b:Nat} {A B C:World} (h:KeepB b A B) (k:KeepB b B C):KeepB b A C:=Eq.trans k h
theorem keepB_b {b:Nat} {w:World} (hb:b<w.heap.size) (W:World) (l:Nat) (o o':Obj) (hl:w.heap.size≤l) (_:W.heap[l]? = some o) (_:o.isCells=false) (_:o.isWalk=false):KeepB b W (W.putObj l o'):=World.putObj_heap_other (by omega)
theorem rule_ok (r:RA):parseOk r.1=true:=rules_parse r.1 r.2
theorem rule_parts (r:RA):9≤r.1.text.length∧r.1.text.length≤100∧(∀ b∈r.1.text,b≠59):=by
 have h:=rule_ok r
 unfold parseOk at h
 simp only [Bool.and_eq_true,decide_eq_true_eq,List.all_eq_true] at h
 obtain ⟨⟨⟨⟨⟨⟨h1,h2⟩,_⟩,h3⟩,_⟩,h4⟩,_⟩:=h
 exact ⟨h2,h4,h3⟩
theorem joinA_cut (r:RA) (l:List RA):Lib.cut (joinA (r::l)).data.toList [59]=(r.1.text,(joinA l).data.toList,!l.isEmpty):=by
 have:=cut_joinT (t:=r.1.text) (ts:=l.map (·.1.text)) (rule_parts r).2.2
 unfold joinA
 simp only [List.map_cons]
 rw [this]
 cases l<;>simp
theorem joinA_size:∀ l:List RA,(joinA l).size≤l.length * 101
 | []=>by show ([]:List UInt8).toArray.size≤_; simp
 | [r]=>by
   have:=(rule_parts r).2.1
   show (r.1.text.toArray.size)≤_
   simp; omega
 | r::s::l=>by
   have h1:=(rule_parts r).2.1
   have h2:=joinA_size (s::l)
   have e:(joinA (r::s::l)).size=r.1.text.length+1+(joinA (s::l)).size:=by
    show ((r.1.text++59::joinT ((s::l).map (·.1.text))).toArray.size)=_
    rw [List.size_toArray,List.length_append,List.length_cons]
    show _=_+(joinT ((s::l).map (·.1.text))).toArray.size
    rw [List.size_toArray]; omega
   rw [e]
   simp only [List.length_cons] at h2 ⊢
   omega
set_option maxRecDepth 100000 in
set_option maxHeartbeats 1000000 in
theorem texts1_go (n b:Nat) (hn:1≤n) (r0:RA) (rl:List RA) (hlen:rl.length≤1000) :
 SeqGo Fence.wide n Tryz.prog 317 #[.pointer (some ⟨b,0,none⟩)] (fun x:RA=>#[.string ⟨x.1.text.toArray⟩]) (KeepB b) (StB b) (fun W=>StrB b W (joinA (r0::rl))) (fun _ _=>True) (fun xs=>xs=r0::rl) (fun pre=>pre <+: r0::rl) (rl.length+1):=by
 intro l J Jx W hR hJ hJx hY h0
 refine callsIn_of_wp Tryz.func317 rfl trivial ?_ rfl
 simp only [Tryz.ntmps317,List.size_toArray,List.length_cons,List.length_nil,Nat.reduceAdd,Nat.reduceSub,Array.replicate_succ,Array.replicate_zero,List.push_toArray,List.append_toArray,List.nil_append,List.cons_append]
 gi_wp2
 gi_loopg [3] (rl.length+2) (fun k more wr=>∃ (pre rest:List RA),r0::rl=pre++rest∧more=.bool (!rest.isEmpty)∧Hid (rest≠[]→StrB b wr (joinA rest))∧Hid (J pre wr)∧rest.length<k)
 case atStart=>exact ⟨[],r0::rl,rfl,rfl,Hh (fun _=>hR),Hh h0,by simp⟩
 case round =>
  obtain ⟨pre,rest,hx,rfl,HSt,hj,hk⟩:=hrel
  cases rest with
  | nil =>
    have hpre:pre=r0::rl:=by rw [hx,List.append_nil]
    have HP:=Hh hpre; clear hpre hx
    gi_wp2
    go_end0
    exact ⟨⟨_,rfl⟩,.inl ⟨pre,HP.out,hj.out⟩⟩
  | cons r rest =>
    have hst:=HSt.out (by simp)
    have hcl:=hst.cell
    have hfl:=hst.frozen
    have hlt:=hst.lt
    have hcut:=cut1_any (joinA (r::rest)) 59 wr (by have:=joinA_size (r::rest); have h2:=congrArg List.length hx; simp only [List.length_append,List.length_cons] at h2 this; omega)
    rw [joinA_cut] at hcut
    have hstb:∀ q,StB b wr ((wr.drewN q).setCell ⟨b,0,none⟩ (.string (joinA rest))):=fun q=>⟨Kb.setCell (Kb.drewN (Kb.refl b wr) q) 0 _,⟨_,hst⟩⟩
    have hset:∀ q,StrB b ((wr.drewN q).setCell ⟨b,0,none⟩ (.string (joinA rest))) (joinA rest):=fun q=>StrB.set (W:=wr.drewN q) hst
    have hplen:pre.length<rl.length+1:=by have h2:=congrArg List.length hx; simp only [List.length_append,List.length_cons] at h2; omega
    have hY2:=fun q=>hY pre r _ (hJ _ _ _ hj.out (hstb q)) trivial hplen
    have HY2:=Hh hY2; clear hY2
    have HCUT:=Hh hcut; clear hcut
    have HSET:=Hh hset; clear hset hst hstb
    have HX:=Hh hx; clear hx
    gi_wp2_with (refine ⟨trivial,?_⟩; gi_at_call 255; refine (callsIn_wide.2 HCUT.out).mono ?_; rintro e w' ⟨rfl,q,rfl⟩; obtain ⟨fn,tmps,assign,body,hy,hR⟩:=HY2.out q)
    refine hR.mono ?_
    rintro e W3 (⟨rfl,hJ3,hk3⟩ | ⟨rfl,hJx3⟩)
    · have h3:StrB b W3 (joinA rest):=Eq.trans hk3 (HSET.out _)
      have H3:=Hh h3; clear h3
      gi_wp2
      gi_roundg (rest.length+1)
      case measure=>simp only [List.length_cons] at hk; omega
      case rel=>exact ⟨pre++[r],rest,by rw [HX.out,List.append_assoc]; rfl,rfl,Hh (fun _=>H3.out),Hh hJ3,by omega⟩
    · gi_wp2
      refine bodyPost_ret (results_none rfl _ _ _) rfl ?_
      exact ⟨⟨_,rfl⟩,.inr ⟨pre++[r],⟨rest,by rw [HX.out,List.append_assoc]; rfl⟩,hJx3⟩⟩
end Go.Proofs.YtkldoojonnkfgaaGreatDoor
namespace Go.Proofs.YtkldoojonnkfgaaGreatDoor
open Go.RowKit Go.Sort
def argW:List (List UInt8):=[[40,66,67,41],[40,67,41],[40,68,69,41],[40,72,76,41],[40,83,80,41],[40,110,41],[40,119,41],[48],[49],[50],[65],[65,70],[65,70,39],[68,69],[72,76],[73],[82],[83,80],[98],[99],[101],[107],[110],[112],[113],[114],[115],[116],[119]]
def argC (bits:List UInt8) (op:Nat) (s:List UInt8):Bool :=
 match s with
 | [c]=>if c=114∨c=115 then decide (fieldV op c 0 bits 0<8) else if c=112∨c=113 then decide (fieldV op c 0 bits 0<4) else true
 | _=>true
theorem argW_mem:∀ r∈allR,∀ s∈r.args,s∈argW:=by decide +kernel
set_option maxRecDepth 100000 in
theorem argC_ok:∀ r∈allR,∀ s∈r.args,∀ op:Fin 256,argC r.bits op.val s=true:=by decide +kernel
def wordsR:List (List UInt8):=[[40,66,67,41],[40,67,41],[40,68,69,41],[40,72,76,41],[40,83,80,41],[65],[65,70],[65,70,39],[68,69],[72,76],[73],[82],[83,80]]
theorem wordT_eq:∀ s∈wordsR,wordT s=wordV s:=by decide +kernel
theorem rule8 (r:RA):r.1.bits.length=8:=by
 have h:=rule_ok r
 unfold parseOk at h
 simp only [Bool.and_eq_true,decide_eq_true_eq] at h
 exact h.1.1.2
theorem rule3 (r:RA):r.1.args.length≤3:=by
 have h:=rule_ok r
 unfold parseOk at h
 simp only [Bool.and_eq_true,decide_eq_true_eq] at h
 exact h.2
theorem arg_any (b:Nat) (u:Bu) (s:List UInt8) (w:World) (hT:TabsA w) (hB:BuAt w b u) (h8:u.bits.length=8) (hop:u.op<256) (hx:u.ex.length≤100) (hs:s∈argW) (hC:argC u.bits u.op s=true) :
 Calls Tryz.prog 320 #[.pointer (some ⟨b,0,none⟩),.string ⟨s.toArray⟩] w (ArgRes b u (argP u.bits u.op s) w):=by
 unfold argW at hs
 simp only [List.mem_cons,List.not_mem_nil,or_false] at hs
 rcases hs with rfl | rfl | rfl | rfl | rfl | rfl | rfl | rfl | rfl | rfl | rfl | rfl | rfl | rfl | rfl | rfl | rfl | rfl | rfl | rfl | rfl | rfl | rfl | rfl | rfl | rfl | rfl | rfl | rfl
 · rw [show argP u.bits u.op [40,66,67,41]=(wordT [40,66,67,41],[]) from rfl,wordT_eq [40,66,67,41] (by decide)]
   exact (arg_word b [40,66,67,41] w (by decide +kernel) (by decide) (by decide) (by decide)).mono fun e w' h=>argRes_of hB h
 · rw [show argP u.bits u.op [40,67,41]=(wordT [40,67,41],[]) from rfl,wordT_eq [40,67,41] (by decide)]
   exact (arg_word b [40,67,41] w (by decide +kernel) (by decide) (by decide) (by decide)).mono fun e w' h=>argRes_of hB h
 · rw [show argP u.bits u.op [40,68,69,41]=(wordT [40,68,69,41],[]) from rfl,wordT_eq [40,68,69,41] (by decide)]
   exact (arg_word b [40,68,69,41] w (by decide +kernel) (by decide) (by decide) (by decide)).mono fun e w' h=>argRes_of hB h
 · rw [show argP u.bits u.op [40,72,76,41]=(wordT [40,72,76,41],[]) from rfl,wordT_eq [40,72,76,41] (by decide)]
   exact (arg_word b [40,72,76,41] w (by decide +kernel) (by decide) (by decide) (by decide)).mono fun e w' h=>argRes_of hB h
 · rw [show argP u.bits u.op [40,83,80,41]=(wordT [40,83,80,41],[]) from rfl,wordT_eq [40,83,80,41] (by decide)]
   exact (arg_word b [40,83,80,41] w (by decide +kernel) (by decide) (by decide) (by decide)).mono fun e w' h=>argRes_of hB h
 · rw [show argP u.bits u.op [40,110,41]=((7,0,0),[110]) from rfl]
   exact arg_mn b u w hB hx
 · rw [show argP u.bits u.op [40,119,41]=((7,0,0),[119]) from rfl]
   exact arg_mw b u w hB hx
 · rw [show argP u.bits u.op [48]=(((6:Int),(0:Int),(0:Int)),[]) from rfl]
   exact (arg_0 b w).mono fun e w' h=>argRes_of hB h
 · rw [show argP u.bits u.op [49]=(((6:Int),(0:Int),(1:Int)),[]) from rfl]
   exact (arg_1 b w).mono fun e w' h=>argRes_of hB h
 · rw [show argP u.bits u.op [50]=(((6:Int),(0:Int),(2:Int)),[]) from rfl]
   exact (arg_2 b w).mono fun e w' h=>argRes_of hB h
 · rw [show argP u.bits u.op [65]=(wordT [65],[]) from rfl,wordT_eq [65] (by decide)]
   exact (arg_A b w).mono fun e w' h=>argRes_of hB h
 · rw [show argP u.bits u.op [65,70]=(wordT [65,70],[]) from rfl,wordT_eq [65,70] (by decide)]
   exact (arg_word b [65,70] w (by decide +kernel) (by decide) (by decide) (by decide)).mono fun e w' h=>argRes_of hB h
 · rw [show argP u.bits u.op [65,70,39]=(wordT [65,70,39],[]) from rfl,wordT_eq [65,70,39] (by decide)]
   exact (arg_word b [65,70,39] w (by decide +kernel) (by decide) (by decide) (by decide)).mono fun e w' h=>argRes_of hB h
 · rw [show argP u.bits u.op [68,69]=(wordT [68,69],[]) from rfl,wordT_eq [68,69] (by decide)]
   exact (arg_word b [68,69] w (by decide +kernel) (by decide) (by decide) (by decide)).mono fun e w' h=>argRes_of hB h
 · rw [show argP u.bits u.op [72,76]=(wordT [72,76],[]) from rfl,wordT_eq [72,76] (by decide)]
   exact (arg_word b [72,76] w (by decide +kernel) (by decide) (by decide) (by decide)).mono fun e w' h=>argRes_of hB h
 · rw [show argP u.bits u.op [73]=(wordT [73],[]) from rfl,wordT_eq [73] (by decide)]
   exact (arg_I b w).mono fun e w' h=>argRes_of hB h
 · rw [show argP u.bits u.op [82]=(wordT [82],[]) from rfl,wordT_eq [82] (by decide)]
   exact (arg_R b w).mono fun e w' h=>argRes_of hB h
 · rw [show argP u.bits u.op [83,80]=(wordT [83,80],[]) from rfl,wordT_eq [83,80] (by decide)]
   exact (arg_word b [83,80] w (by decide +kernel) (by decide) (by decide) (by decide)).mono fun e w' h=>argRes_of hB h
 · rw [show argP u.bits u.op [98]=((6,0,((fieldV u.op 98 0 u.bits 0:Nat):Int)),[]) from rfl]
   exact (arg_b b u w hB h8 hop).mono fun e w' h=>argRes_of hB h
 · rw [show argP u.bits u.op [99]=((8,((fieldV u.op 99 0 u.bits 0:Nat):Int),0),[]) from rfl]
   exact (arg_c b u w hB h8 hop).mono fun e w' h=>argRes_of hB h
 · rw [show argP u.bits u.op [101]=((10,0,0),[101]) from rfl]
   exact arg_e b u w hB hx
 · rw [show argP u.bits u.op [107]=((8,((fieldV u.op 107 0 u.bits 0:Nat):Int),0),[]) from rfl]
   exact (arg_k b u w hB h8 hop).mono fun e w' h=>argRes_of hB h
 · rw [show argP u.bits u.op [110]=((6,0,0),[110]) from rfl]
   exact arg_n b u w hB hx
 · rw [show argP u.bits u.op [112]=((3,((fieldV u.op 112 0 u.bits 0:Nat):Int),0),[]) from rfl]
   exact (arg_p b u w hT hB h8 hop (by simpa [argC] using hC)).mono fun e w' h=>argRes_of hB h
 · rw [show argP u.bits u.op [113]=((3,(if fieldV u.op 113 0 u.bits 0=3 then 4 else ((fieldV u.op 113 0 u.bits 0:Nat):Int)),0),[]) from rfl]
   exact (arg_q b u w hT hB h8 hop (by simpa [argC] using hC)).mono fun e w' h=>argRes_of hB h
 · rw [show argP u.bits u.op [114]=(regOp (fieldV u.op 114 0 u.bits 0),[]) from rfl]
   exact (arg_r b u w hT hB h8 hop (by simpa [argC] using hC)).mono fun e w' h=>argRes_of hB h
 · rw [show argP u.bits u.op [115]=(regOp (fieldV u.op 115 0 u.bits 0),[]) from rfl]
   exact (arg_s b u w hT hB h8 hop (by simpa [argC] using hC)).mono fun e w' h=>argRes_of hB h
 · rw [show argP u.bits u.op [116]=((6,0,8 * ((fieldV u.op 116 0 u.bits 0:Nat):Int)),[]) from rfl]
   exact (arg_t b u w hB h8 hop).mono fun e w' h=>argRes_of hB h
 · rw [show argP u.bits u.op [119]=((6,0,0),[119]) from rfl]
   exact arg_w b u w hB hx
end Go.Proofs.YtkldoojonnkfgaaGreatDoor
namespace Go.Proofs.YtkldoojonnkfgaaGreatDoor
open Go.RowKit Go.Sort
def w2T (r:Rule):List UInt8:=(Lib.fields r.text).getD 2 []
def hasArgs (r:Rule):Bool:=decide (2<(Lib.fields r.text).length) && decide (w2T r≠[42])
def splitOk (r:Rule):Bool:=if hasArgs r=true then decide (Lib.countB ⟨(w2T r).toArray⟩ ⟨#[44]⟩+1=r.args.length) else decide (r.args=[])
set_option maxRecDepth 100000 in
theorem split_ok:∀ r∈allR,splitOk r=true:=by decide +kernel
theorem rule_fields (r:RA):∃ rest,Lib.fields r.1.text=r.1.bits::r.1.mn::rest∧((Lib.fields r.1.text).getD ((Lib.fields r.1.text).length - 1) [] == [42])=r.1.alias∧r.1.text.all (fun b=>decide (b.toNat<128))=true∧(hasArgs r.1=true→argsT (w2T r.1)=r.1.args∧Lib.countB ⟨(w2T r.1).toArray⟩ ⟨#[44]⟩+1=r.1.args.length)∧(hasArgs r.1=false→r.1.args=[]):=by
 have h:=rule_ok r
 have hs:=split_ok r.1 r.2
 unfold splitOk at hs
 unfold parseOk at h
 simp only [Bool.and_eq_true,decide_eq_true_eq] at h
 obtain ⟨⟨⟨⟨⟨⟨⟨⟨⟨⟨⟨h1,h2⟩,h3⟩,h4⟩,h5⟩,h6⟩,_⟩,_⟩,_⟩,_⟩,_⟩,_⟩:=h
 obtain ⟨a,b,rest,hf⟩:∃ a b rest,Lib.fields r.1.text=a::b::rest:=by
  cases hL:Lib.fields r.1.text with
  | nil=>rw [hL] at h1; simp at h1
  | cons a l=>cases l with
    | nil=>rw [hL] at h1; simp at h1
    | cons b l=>exact ⟨a,b,l,rfl⟩
 have e1:a=r.1.bits:=by rw [hf] at h2; exact h2
 have e2:b=r.1.mn:=by rw [hf] at h3; exact h3
 refine ⟨rest,by rw [hf,e1,e2],?_,h6,fun ha=>?_,fun ha=>?_⟩
 · rw [Bool.eq_iff_iff,beq_iff_eq]
   exact h4
 · rw [if_pos ha,decide_eq_true_eq] at hs
   unfold hasArgs at ha
   rw [Bool.and_eq_true,decide_eq_true_eq,decide_eq_true_eq] at ha
   unfold w2T at ha
   rw [if_pos ha,decide_eq_true_eq] at h5
   exact ⟨h5,hs⟩
 · rw [if_neg (by rw [ha]; decide),decide_eq_true_eq] at hs
   exact hs
set_option maxRecDepth 100000 in
theorem fields_few:∀ r∈allR,(Lib.fields r.text).length≤1000:=by decide +kernel
set_option maxRecDepth 100000 in
theorem fields_short:∀ r∈allR,∀ x∈Lib.fields r.text,x.length≤1000:=by decide +kernel
set_option maxHeartbeats 2000000 in
set_option maxRecDepth 100000 in
theorem parse_any0 (r:RA) (w:World) (hT:TabsA w) (ha:hasArgs r.1=false) :
 Calls Tryz.prog 319 #[.string ⟨r.1.text.toArray⟩] w fun e w'=>e=.returned (ruleV r.1.bits r.1.mn (.slice none 0 0) r.1.alias)∧Below w.heap.size w w':=by
 obtain ⟨rest,hf,hal,hasc,_,_⟩:=rule_fields r
 have hb0:Below w.heap.size w (w.alloc (.cells #[.string ⟨#[]⟩,.string ⟨#[]⟩,.slice none 0 0,.bool false] 383)):=(Below.refl _ _).alloc (Nat.le_refl _) _
 have hfa:=fields_any r.1.text _ (hT.below hb0) (by have:=(rule_parts r).2.1; omega) hasc
 obtain ⟨O,hO⟩:∃ O,Obj.cells ((Lib.fields r.1.text).map fun x=>Value.string ⟨x.toArray⟩).toArray 9=O:=⟨_,rfl⟩
 rw [hO] at hfa
 obtain ⟨N,hN⟩:∃ N,(Lib.fields r.1.text).length=N:=⟨_,rfl⟩
 have hN2:2≤N:=by rw [←hN,hf]; simp
 have hNle:N≤1000:=by rw [←hN]; exact fields_few r.1 r.2
 have hha:N≤2∨2<N∧(Lib.fields r.1.text)[2]? = some [42]:=by
  unfold hasArgs w2T at ha
  rw [hN] at ha
  by_cases h2:2<N
  · right
    refine ⟨h2,?_⟩
    have hx:(Lib.fields r.1.text)[2]? = some ((Lib.fields r.1.text)[2]'(by omega)):=List.getElem?_eq_getElem (by omega)
    rw [decide_eq_true h2,Bool.true_and,decide_eq_false_iff_not,Decidable.not_not,List.getD_eq_getElem?_getD,hx] at ha
    rw [hx,←ha]; rfl
  · left; omega
 have hcell:∀ (W:World) (j:Nat) (x:List UInt8),(Lib.fields r.1.text)[j]? = some x→(W.alloc O).cell? ⟨W.heap.size,j,none⟩=some (.string ⟨x.toArray⟩):=fun W j x hx=>by
  rw [←hO,World.cell?_alloc_at _ _ _ _ rfl]
  simp [hx]
 have hc0:=hcell (w.alloc (.cells #[.string ⟨#[]⟩,.string ⟨#[]⟩,.slice none 0 0,.bool false] 383)) 0 r.1.bits (by rw [hf]; rfl)
 have hc1:=hcell (w.alloc (.cells #[.string ⟨#[]⟩,.string ⟨#[]⟩,.slice none 0 0,.bool false] 383)) 1 r.1.mn (by rw [hf]; rfl)
 obtain ⟨y,hy⟩:∃ y,(Lib.fields r.1.text)[N - 1]? = some y:=⟨_,List.getElem?_eq_getElem (by omega)⟩
 have hcy:=hcell (w.alloc (.cells #[.string ⟨#[]⟩,.string ⟨#[]⟩,.slice none 0 0,.bool false] 383)) (N - 1) y hy
 have hyal:(y == [42])=r.1.alias:=by rw [←hal,hN,List.getD_eq_getElem?_getD,hy]; rfl
 have hc2:=fun h=>hcell (w.alloc (.cells #[.string ⟨#[]⟩,.string ⟨#[]⟩,.slice none 0 0,.bool false] 383)) 2 [42] h
 rw [World.size_alloc] at hc0 hc1 hcy hc2
 rw [hN] at hfa
 have HFA:=Hh hfa; clear hfa hO hcell
 generalize r.1.alias=al at *
 generalize r.1.bits=bs at *
 generalize r.1.mn=mn at *
 have hN0:(0:Int)<N:=by omega
 have hN1:(1:Int)<N:=by omega
 have ws:IntKind.i64.wrap ((N:Int) - 1)=(N:Int) - 1:=IntWalk.i64_in _ (by omega)
 have ws1:(0:Int)≤(N:Int) - 1:=by omega
 have ws2:((N:Int) - 1).toNat=N - 1:=by omega
 clear hf hal hT hb0 hN ha
 rcases hha with h2 | ⟨h2,hs2⟩
 · have hd:decide ((2:Int)<(N:Int))=false:=decide_eq_false (by omega)
   clear hc2
   go_enter Tryz.func319,Tryz.ntmps319
   go_wp2_with fail
   refine HFA.out.mono ?_
   rintro e w1 ⟨rfl,rfl⟩
   go_wp2_with fail
   go_region
   go_wp2_with fail
   refine bodyPost_ret (v:=ruleV bs mn (.slice none 0 0) al) (by simp [results,Tryz.results319,go_sem]) rfl ⟨rfl,bl⟩
 · have hd:decide ((2:Int)<(N:Int))=true:=decide_eq_true (by omega)
   have hN3:(2:Int)<N:=by omega
   have hc3:=hc2 hs2
   clear hc2 hs2
   go_enter Tryz.func319,Tryz.ntmps319
   go_wp2_with fail
   refine HFA.out.mono ?_
   rintro e w1 ⟨rfl,rfl⟩
   go_wp2_with fail
   go_region
   go_wp2_with fail
   refine bodyPost_ret (v:=ruleV bs mn (.slice none 0 0) al) (by simp [results,Tryz.results319,go_sem]) rfl ⟨rfl,bl⟩
set_option maxHeartbeats 2000000 in
set_option maxRecDepth 100000 in
theorem parse_any1 (r:RA) (w:World) (hT:TabsA w) (ha:hasArgs r.1=true) :
 Calls Tryz.prog 319 #[.string ⟨r.1.text.toArray⟩] w fun e w'=>∃ a c,e=.returned (ruleV r.1.bits r.1.mn (.slice a r.1.args.length c) r.1.alias)∧Row w' (.slice a r.1.args.length c) r.1.args.length (strc (r.1.args.map fun x=>⟨x.toArray⟩))∧Below w.heap.size w w':=by
 obtain ⟨rest,hf,hal,hasc,hargs,_⟩:=rule_fields r
 obtain ⟨hsp,hcnt⟩:=hargs ha
 have hb0:Below w.heap.size w (w.alloc (.cells #[.string ⟨#[]⟩,.string ⟨#[]⟩,.slice none 0 0,.bool false] 383)):=(Below.refl _ _).alloc (Nat.le_refl _) _
 have hfa:=fields_any r.1.text _ (hT.below hb0) (by have:=(rule_parts r).2.1; omega) hasc
 obtain ⟨O,hO⟩:∃ O,Obj.cells ((Lib.fields r.1.text).map fun x=>Value.string ⟨x.toArray⟩).toArray 9=O:=⟨_,rfl⟩
 rw [hO] at hfa
 obtain ⟨N,hN⟩:∃ N,(Lib.fields r.1.text).length=N:=⟨_,rfl⟩
 have hN2:2≤N:=by rw [←hN,hf]; simp
 have hNle:N≤1000:=by rw [←hN]; exact fields_few r.1 r.2
 have hha:2<N∧(Lib.fields r.1.text)[2]? = some (w2T r.1):=by
  unfold hasArgs at ha
  rw [Bool.and_eq_true,decide_eq_true_eq] at ha
  rw [hN] at ha
  refine ⟨ha.1,?_⟩
  unfold w2T
  rw [List.getD_eq_getElem?_getD,List.getElem?_eq_getElem (by omega)]; rfl
 have hne:(w2T r.1 == [42])=false:=by
  unfold hasArgs at ha
  rw [Bool.and_eq_true,decide_eq_true_eq,decide_eq_true_eq] at ha
  simpa using ha.2
 obtain ⟨h2,hs2⟩:=hha
 have hcell:∀ (W:World) (j:Nat) (x:List UInt8),(Lib.fields r.1.text)[j]? = some x→(W.alloc O).cell? ⟨W.heap.size,j,none⟩=some (.string ⟨x.toArray⟩):=fun W j x hx=>by
  rw [←hO,World.cell?_alloc_at _ _ _ _ rfl]
  simp [hx]
 have hc0:=hcell (w.alloc (.cells #[.string ⟨#[]⟩,.string ⟨#[]⟩,.slice none 0 0,.bool false] 383)) 0 r.1.bits (by rw [hf]; rfl)
 have hc1:=hcell (w.alloc (.cells #[.string ⟨#[]⟩,.string ⟨#[]⟩,.slice none 0 0,.bool false] 383)) 1 r.1.mn (by rw [hf]; rfl)
 obtain ⟨y,hy⟩:∃ y,(Lib.fields r.1.text)[N - 1]? = some y:=⟨_,List.getElem?_eq_getElem (by omega)⟩
 have hcy:=hcell (w.alloc (.cells #[.string ⟨#[]⟩,.string ⟨#[]⟩,.slice none 0 0,.bool false] 383)) (N - 1) y hy
 have hyal:(y == [42])=r.1.alias:=by rw [←hal,hN,List.getD_eq_getElem?_getD,hy]; rfl
 have hc2:=fun h=>hcell (w.alloc (.cells #[.string ⟨#[]⟩,.string ⟨#[]⟩,.slice none 0 0,.bool false] 383)) 2 (w2T r.1) h
 rw [World.size_alloc] at hc0 hc1 hcy hc2
 rw [hN] at hfa
 have hW2:(w2T r.1).length≤1000:=by
  have h3:=List.mem_of_getElem? hs2
  exact fields_short r.1 r.2 _ h3
 obtain ⟨m,hm⟩:=hT.ml
 have hspl:=fun (W:World) (hb:Below w.heap.size w W)=>Tryz.strings_Split ⟨(w2T r.1).toArray⟩ ⟨#[44]⟩ m W (by show (w2T r.1).toArray.size<_; rw [List.size_toArray]; omega) ((hb.cell (p:=⟨1,0,none⟩) (block_lt_of_cell (a:=⟨1,0,none⟩) hm)).trans hm) (by decide)
 rw [hcnt] at hspl
 have hspl2:(Lib.splitB ⟨#[44]⟩ 0 (Lib.countB ⟨(w2T r.1).toArray⟩ ⟨#[44]⟩) ⟨(w2T r.1).toArray⟩)=r.1.args.map fun x=>⟨x.toArray⟩:=by
  unfold argsT at hsp
  rw [←hsp,List.map_map,show ((fun x:List UInt8=>(⟨x.toArray⟩:ByteArray)) ∘ fun b:ByteArray=>b.data.toList)=id from funext fun b=>by cases b; simp,List.map_id]
 rw [hspl2] at hspl
 have hc3:=hc2 hs2
 clear hc2
 generalize w2T r.1=q at *
 obtain ⟨A,hA⟩:∃ A:List ByteArray,(r.1.args.map fun x=>(⟨x.toArray⟩:ByteArray))=A:=⟨_,rfl⟩
 have hAl:A.length=r.1.args.length:=by rw [←hA,List.length_map]
 rw [hA] at hspl
 rw [hA]
 have hle:r.1.args.length≤3:=by
  have h:=rule_ok r
  unfold parseOk at h
  simp only [Bool.and_eq_true,decide_eq_true_eq] at h
  exact h.2
 generalize r.1.args.length=n at *
 have HSPL:=Hh hspl; clear hspl hspl2 hA hsp hcnt
 have HFA:=Hh hfa; clear hfa hO hcell
 generalize r.1.alias=al at *
 generalize r.1.bits=bs at *
 generalize r.1.mn=mn at *
 have hN0:(0:Int)<N:=by omega
 have hN1:(1:Int)<N:=by omega
 have ws:IntKind.i64.wrap ((N:Int) - 1)=(N:Int) - 1:=IntWalk.i64_in _ (by omega)
 have ws1:(0:Int)≤(N:Int) - 1:=by omega
 have ws2:((N:Int) - 1).toNat=N - 1:=by omega
 clear hf hal hT hb0 hN ha hs2 hm
 have hd:decide ((2:Int)<(N:Int))=true:=decide_eq_true (by omega)
 have hN3:(2:Int)<N:=by omega
 go_enter Tryz.func319,Tryz.ntmps319
 go_wp2_with fail
 refine HFA.out.mono ?_
 rintro e w1 ⟨rfl,rfl⟩
 go_wp2_with fail
 go_region
 go_wp2_with fail
 refine (HSPL.out _ (bl)).mono ?_
 rintro e w1 ⟨rfl,rfl⟩
 go_wp2_with fail
 refine bodyPost_ret (v:=ruleV bs mn (.slice (some ⟨w.heap.size+1+1+1,0,none⟩) n n) al) (by simp [results,Tryz.results319,go_sem]) rfl ⟨_,_,rfl,⟨_,n,rfl,Nat.le_refl _,fun _=>⟨w.heap.size+1+1+1,0,rfl,by simp [go_sem],fun j hj=>?_⟩⟩,bl⟩
 rw [Nat.zero_add,World.cell?_drew,World.cell?_alloc_at _ _ _ _ (by simp)]
 simp [strc]
theorem parse_any (r:RA) (w:World) (hT:TabsA w) :
 Calls Tryz.prog 319 #[.string ⟨r.1.text.toArray⟩] w fun e w'=>∃ a c,e=.returned (ruleV r.1.bits r.1.mn (.slice a r.1.args.length c) r.1.alias)∧Row w' (.slice a r.1.args.length c) r.1.args.length (strc (r.1.args.map fun x=>⟨x.toArray⟩))∧Below w.heap.size w w':=by
 rcases ha:hasArgs r.1 with _ | _
 · obtain ⟨_,_,_,_,_,hn⟩:=rule_fields r
   have hn:=hn ha
   rw [hn]
   exact (parse_any0 r w hT ha).mono fun e w' ⟨he,hb⟩=>⟨none,0,he,Row.nil _,hb⟩
 · exact parse_any1 r w hT ha
end Go.Proofs.YtkldoojonnkfgaaGreatDoor
namespace Go.Proofs.YtkldoojonnkfgaaGreatDoor
open Go.RowKit Go.Sort Go.Shelf
attribute [local go_sem] Oper.semAt_some
def lookA (op:Nat) (l:List RA):Option RA:=l.find? fun r=>fitsT r.1.text op
def lookV (o:Option RA):Value:=.tuple #[.string (match o with | some r=>⟨r.1.text.toArray⟩ | none=>⟨#[]⟩),.bool o.isSome]
theorem stB_others {b:Nat} (A B:World) (k:Nat) (o:Obj) (h:StB b A B) (hk:A.heap[k]? = some o) (hc:o.isCells=false):B.heap[k]? = some o:=by
 obtain ⟨h,s,hs⟩:=h
 by_cases e:k=b
 · subst e
   unfold StrB at hs
   rw [hs] at hk; cases hk; cases hc
 · exact (h.block k (Array.getElem?_eq_some_iff.1 hk).1 e).trans hk
theorem boxed_kb {b k:Nat} {t:TypeId} {v:Value} {A B:World} (h:Boxed A k t v) (hb:Kb b A B) (hne:k≠b):Boxed B k t v:=(hb.block k h.lt hne).trans h
theorem Kb.belowN {b n:Nat} {A B:World} (h:Kb b A B) (hn:n≤b) (hA:n≤A.heap.size):Below n A B:=⟨h.os,h.tape,h.output,h.size,fun k hk=>h.block k (by omega) (by omega)⟩
theorem look_no {op:Nat} {l:List RA} (h:∀ y∈l,fitsT y.1.text op=false):lookA op l=none:=by
 unfold lookA
 rw [List.find?_eq_none]
 intro y hy
 rw [h y hy]; decide
theorem look_yes {op:Nat} {q l:List RA} {x:RA} (hp:q++[x] <+: l) (h:∀ y∈q,fitsT y.1.text op=false) (hx:fitsT x.1.text op=true):lookA op l=some x:=by
 obtain ⟨r,rfl⟩:=hp
 unfold lookA
 rw [List.append_assoc,List.find?_append,List.find?_eq_none.2 (by intro y hy; rw [h y hy]; decide)]
 simp [hx]
theorem texts_any (s:ByteArray) (w:World):Calls Tryz.prog 254 #[.string s] w fun e w'=>e=.returned (.func (.func 317) #[] #[.pointer (some ⟨w.heap.size,0,none⟩)])∧w'=w.alloc (.cells #[.string s] 9):=by
 go_enter Tryz.func254,Tryz.ntmps254
 go_wp2
 go_ret
 exact ⟨rfl,rfl⟩
set_option maxRecDepth 100000 in
set_option maxHeartbeats 2000000 in
theorem lookup_any (r0:RA) (rl:List RA) (op:Nat) (w:World) (hlen:rl.length≤1000) (hop:op<256) :
 Calls Tryz.prog 191 #[.string (joinA (r0::rl)),.int .u8 op] w fun e w'=>e=.returned (lookV (lookA op (r0::rl)))∧Below w.heap.size w w':=by
 refine (callsIn_wide (n:=3)).1 ?_
 obtain ⟨J,hJ⟩:∃ J,joinA (r0::rl)=J:=⟨_,rfl⟩
 rw [hJ]
 have HJ:=Hh hJ; clear hJ
 refine callsIn_of_wp_marks Tryz.func191 rfl trivial ?_ rfl
 simp only [Tryz.ntmps191,List.size_toArray,List.length_cons,List.length_nil,Nat.reduceAdd,Nat.reduceSub,Array.replicate_succ,Array.replicate_zero,List.push_toArray,List.append_toArray,List.nil_append,List.cons_append]
 gi_wp2_with (refine ⟨trivial,?_⟩; gi_at_call 254; refine (callsIn_wide.2 (texts_any _ _)).mono ?_; rintro e w' ⟨rfl,rfl⟩)
 obtain ⟨c,hc⟩:∃ c:World,(((w.alloc (.cells #[.int .u8 op] 5)).alloc (.cells #[.string ⟨#[]⟩] 9)).alloc (.cells #[.bool false] 4))=c:=⟨_,rfl⟩
 have hcs:c.heap.size=w.heap.size+1+1+1:=by rw [←hc]; simp
 have b0:Boxed c w.heap.size 5 (.int .u8 op):=by rw [←hc]; exact ((Boxed.new _ _ _).alloc _).alloc _
 have b1:Boxed c (w.heap.size+1) 9 (.string ⟨#[]⟩):=by rw [←hc]; have:=(Boxed.new (w.alloc (.cells #[.int .u8 op] 5)) 9 (.string ⟨#[]⟩)).alloc (.cells #[.bool false] 4); rwa [World.size_alloc] at this
 have b2:Boxed c (w.heap.size+1+1) 4 (.bool false):=by rw [←hc]; have:=Boxed.new ((w.alloc (.cells #[.int .u8 op] 5)).alloc (.cells #[.string ⟨#[]⟩] 9)) 4 (.bool false); simp only [World.size_alloc] at this; exact this
 have hB0:Below w.heap.size w c:=by rw [←hc]; exact ((((Below.refl _ w).alloc (Nat.le_refl _) _).alloc (by simp) _).alloc (by simp; omega) _)
 rw [hc]
 clear hc
 have hst:StrB (w.heap.size+1+1+1) (c.alloc (.cells #[.string J] 9)) (joinA (r0::rl)):=by rw [HJ.out,←hcs]; exact Boxed.new _ _ _
 refine wpIn_rangeFunc_steps rfl (by decide) (gf:=317) (lb:=#[.pointer (some ⟨w.heap.size+1+1+1,0,none⟩)]) rfl trivial (enters_of Tryz.func317 (by kernel_rfl) rfl)
  (texts1_go 2 (w.heap.size+1+1+1) (by decide) r0 rl hlen)
  (fun o o'=>(Boxed.alloc (Boxed.alloc hst o) o')) (fun A B k o h hk hc _=>stB_others A B k o h hk hc) keepB_t (keepB_b (by rw [World.size_alloc,hcs]; omega)) (fun _ _ _ _ _ _ _ _ _=>trivial) (fun _=>rfl)
  (fun pre W=>((∀ y∈pre,fitsT y.1.text op=false)∧Boxed W w.heap.size 5 (.int .u8 op)∧Boxed W (w.heap.size+1) 9 (.string ⟨#[]⟩)∧Boxed W (w.heap.size+1+1) 4 (.bool false))∧Below w.heap.size w W)
  (fun c pre W=>(c=.ret∧∃ q x,pre=q++[x]∧(∀ y∈q,fitsT y.1.text op=false)∧fitsT x.1.text op=true∧Boxed W (w.heap.size+1) 9 (.string ⟨x.1.text.toArray⟩)∧Boxed W (w.heap.size+1+1) 4 (.bool true))∧Below w.heap.size w W)
  ?hI ?hIs ?hIx ?hIxs ⟨⟨by simp,b0.alloc _,b1.alloc _,b2.alloc _⟩,hB0.alloc (by omega) _⟩
  (fun x=>{ tmps:=#[.string J,.int .u8 op,undef,.pointer (some ⟨w.heap.size,0,none⟩),.pointer (some ⟨w.heap.size+1,0,none⟩),.pointer (some ⟨w.heap.size+1+1,0,none⟩),.string ⟨x.1.text.toArray⟩,.string J,.func (.func 317) #[] #[.pointer (some ⟨w.heap.size+1+1+1,0,none⟩)],.string ⟨x.1.text.toArray⟩,undef,undef,undef,undef],defers:=[] }) ?assign ?body ?done ?stop
 case hI=>exact OwnFrom.and (fun s A B row hs hg hr=>⟨hs.1,(Own.from (boxed_own (β:=Unit) _ _ fun _=>_) _) () A B row hs.2.1 hg hr,(Own.from (boxed_own (β:=Unit) _ _ fun _=>_) _) () A B row hs.2.2.1 hg hr,(Own.from (boxed_own (β:=Unit) _ _ fun _=>_) _) () A B row hs.2.2.2 hg hr⟩) (ownFrom_below (Nat.le_refl _) (by rw [World.size_alloc,hcs]; omega))
 case hIs=>exact fun s A B ⟨⟨h1,h2,h3,h4⟩,h5⟩ hs=>⟨⟨h1,boxed_kb h2 hs.1 (by omega),boxed_kb h3 hs.1 (by omega),boxed_kb h4 hs.1 (by omega)⟩,h5.trans (hs.1.belowN (by omega) h5.size)⟩
 case hIx=>exact fun c=>OwnFrom.and (fun s A B row ⟨h0,q,x,h1,h2,h3,h4,h5⟩ hg hr=>⟨h0,q,x,h1,h2,h3,(Own.from (boxed_own (β:=Unit) _ _ fun _=>_) _) () A B row h4 hg hr,(Own.from (boxed_own (β:=Unit) _ _ fun _=>_) _) () A B row h5 hg hr⟩) (ownFrom_below (Nat.le_refl _) (by rw [World.size_alloc,hcs]; omega))
 case hIxs=>exact fun c s A B ⟨⟨h0,q,x,h1,h2,h3,h4,h5⟩,h6⟩ hs=>⟨⟨h0,q,x,h1,h2,h3,boxed_kb h4 hs.1 (by omega),boxed_kb h5 hs.1 (by omega)⟩,h6.trans (hs.1.belowN (by omega) h6.size)⟩
 case assign =>
  intro l x W K hK
  gi_wp2
  exact hK
 case body =>
  rintro l pre x W ⟨⟨hp,c0,c1,c2⟩,hB⟩ _ _
  have hc0:=c0.cell
  have k1:=c1.cell
  have f1:=c1.frozen
  have k2:=c2.cell
  have f2:=c2.frozen
  have hfits:=fits_any x.1.text op W (rule_parts x).1 (rule_parts x).2.1 hop
  rcases hx:fitsT x.1.text op with _ | _
  · rw [hx] at hfits
    have HF:=Hh hfits; clear hfits
    have HX:=Hh hx; clear hx
    gi_wp2_with (refine ⟨trivial,?_⟩; gi_at_call 190; refine (CallsIn.inRound l (callsIn_wide.2 HF.out)).mono ?_; rintro e w' ⟨rfl,rfl⟩)
    exact ⟨KeepsOthers.refl _,rfl,⟨fun y hy=>(List.mem_append.1 hy).elim (hp y) (fun e=>by simp at e; subst e; exact HX.out),c0,c1,c2⟩,hB⟩
  · rw [hx] at hfits
    have HF:=Hh hfits; clear hfits
    have HX:=Hh hx; clear hx
    gi_wp2_with (refine ⟨trivial,?_⟩; gi_at_call 190; refine (CallsIn.inRound l (callsIn_wide.2 HF.out)).mono ?_; rintro e w' ⟨rfl,rfl⟩)
    exact ⟨(KeepsOthers.setCell _ _ _).trans (KeepsOthers.setCell _ _ _),⟨rfl,pre,x,rfl,hp,HX.out,(c1.set _).other (by omega) _,(c2.other (by omega) _).set _⟩,(hB.setCell (p:=⟨w.heap.size+1,0,none⟩) (by simp) _).setCell (p:=⟨w.heap.size+1+1,0,none⟩) (by simp; omega) _⟩
 case done =>
  rintro D ys W hD rfl ⟨⟨hp,c0,c1,c2⟩,hB⟩ hK
  have k1:=c1.cell
  have f1:=c1.frozen
  have k2:=c2.cell
  have f2:=c2.frozen
  have HP:=Hh hp; clear hp
  gi_wp2
  have hd:D≠w.heap.size+1:=by rw [World.size_alloc,hcs] at hD; omega
  have hd2:D≠w.heap.size+1+1:=by rw [World.size_alloc,hcs] at hD; omega
  have hK':=(((KeepsOthers.setCell W ⟨w.heap.size+1,0,none⟩ (.string ⟨#[]⟩)).trans (KeepsOthers.setCell _ ⟨w.heap.size+1+1,0,none⟩ (.bool false)))).same D _ hK rfl
  refine ⟨by simp,.inl ⟨_,_,rfl,run_takeDeferred hK',?_⟩⟩
  have e1:=((c1.set (.string ⟨#[]⟩)).other (B':=w.heap.size+1+1) (by omega) (.bool false)).kept (grownBy_putObj' _ D (.deferred none)) (fun e=>hd (by cases e; rfl))
  have e2:=((c2.other (B':=w.heap.size+1) (by omega) (.string ⟨#[]⟩)).set (.bool false)).kept (grownBy_putObj' _ D (.deferred none)) (fun e=>hd2 (by cases e; rfl))
  have g1:=e1.cell
  have g2:=e2.cell
  refine ⟨lookV none,?_,by rw [look_no HP.out],((hB.setCell (p:=⟨w.heap.size+1,0,none⟩) (by simp) _).setCell (p:=⟨w.heap.size+1+1,0,none⟩) (by simp; omega) _).trans (belowK_b (w:=w) (Nat.le_refl _) _ D _ _ (by rw [World.size_alloc,hcs] at hD; omega) hK' rfl rfl)⟩
  simp [results,Tryz.f191,go_sem,g1,g2,lookV]
 case stop =>
  rintro D c pre W hD hpre ⟨⟨rfl,q,x,rfl,hq,hx,c1,c2⟩,hB⟩ hK
  have HP:=Hh (look_yes hpre hq hx); clear hpre hq hx
  gi_wp2
  have hd:D≠w.heap.size+1:=by rw [World.size_alloc,hcs] at hD; omega
  have hd2:D≠w.heap.size+1+1:=by rw [World.size_alloc,hcs] at hD; omega
  refine ⟨by simp,.inl ⟨_,_,rfl,run_takeDeferred hK,?_⟩⟩
  have g1:=(c1.kept (grownBy_putObj' _ D (.deferred none)) (fun e=>hd (by cases e; rfl))).cell
  have g2:=(c2.kept (grownBy_putObj' _ D (.deferred none)) (fun e=>hd2 (by cases e; rfl))).cell
  refine ⟨lookV (some x),?_,by rw [HP.out],hB.trans (belowK_b (w:=w) (Nat.le_refl _) W D _ _ (by rw [World.size_alloc,hcs] at hD; omega) hK rfl rfl)⟩
  simp [results,Tryz.f191,go_sem,g1,g2,lookV]
end Go.Proofs.YtkldoojonnkfgaaGreatDoor
namespace Go.Proofs.YtkldoojonnkfgaaGreatDoor
open Go.RowKit Go.Sort
abbrev entV (e:Ent) (v:Value):Value:=.agg #[.int .i64 e.page,.int .u8 e.op,.string ⟨e.mn.toArray⟩,v,.string ⟨e.extra.toArray⟩,.bool e.alias]
def ent0:Ent:=⟨0,0,[],[],[],false⟩
theorem src3 {w:World} {g:Nat} {x y z:Value} {T:TypeId} (h:w.heap[g]? = some (.cells #[x,y,z] T (0,0))):∀ (j:Nat) (u:Value),[x,y,z][j]? = some u→w.cell? ((⟨g,0,none⟩:Addr).add j)=some u:=fun j u hu=>by
 rw [addr_add,Nat.zero_add]
 match j,hu with
 | 0,hu=>simp at hu; subst hu; simp [World.cell?,h]
 | 1,hu=>simp at hu; subst hu; simp [World.cell?,h]
 | 2,hu=>simp at hu; subst hu; simp [World.cell?,h]
theorem new_block (w:World) (o:Obj):(w.alloc o).heap[w.heap.size]? = some o:=by show (w.heap.push o)[w.heap.size]? = _; simp
theorem new_block2 (w:World) (o1 o2:Obj):((w.alloc o1).alloc o2).heap[w.heap.size+1]? = some o2:=by
 rw [show w.heap.size+1=(w.alloc o1).heap.size by simp]
 exact new_block _ _
theorem BuAt.setArgs {w:World} {b:Nat} {u:Bu} (h:BuAt w b u) (v:Value):BuAt (w.setCell ⟨b,3,none⟩ v) b { u with va:=v }:=by
 unfold BuAt at *
 show (w.heap.modify b _)[b]? = _
 rw [Array.getElem?_eq_getElem (by rw [Array.size_modify]; exact (Array.getElem?_eq_some_iff.1 h).1),Array.getElem_modify_self,(Array.getElem?_eq_some_iff.1 h).2]
 rfl
theorem BuAt.args {w:World} {b:Nat} {u:Bu} (h:BuAt w b u):w.cell? ⟨b,3,none⟩=some u.va∧w.frozen? ⟨b,3,none⟩=false:=by
 unfold BuAt at h
 refine ⟨?_,?_⟩<;>simp [World.cell?,World.frozen?,h]
theorem BuAt.entry {w:World} {b:Nat} {u:Bu} (h:BuAt w b u):w.cell? ⟨b,0,none⟩=some (.int .i64 u.page)∧w.cell? ⟨b,1,none⟩=some (.int .u8 u.op)∧w.cell? ⟨b,2,none⟩=some (.string ⟨u.mn.toArray⟩)∧w.cell? ⟨b,3,none⟩=some u.va∧w.cell? ⟨b,4,none⟩=some (.string ⟨u.ex.toArray⟩)∧w.cell? ⟨b,5,none⟩=some (.bool u.al):=by
 unfold BuAt at h
 refine ⟨?_,?_,?_,?_,?_,?_⟩<;>simp [World.cell?,h]
def aOf (bits:List UInt8) (op:Nat) (l:List (List UInt8)):List Op3:=l.map fun s=>(argP bits op s).1
def xOf (bits:List UInt8) (op:Nat) (l:List (List UInt8)):List UInt8:=l.flatMap fun s=>(argP bits op s).2
theorem argP_short (bits:List UInt8) (op:Nat) (s:List UInt8):(argP bits op s).2.length≤1:=by
 unfold argP
 repeat' split
 all_goals first | (simp; done) | (dsimp only; repeat' split)<;>simp
theorem xOf_short (bits:List UInt8) (op:Nat):∀ l:List (List UInt8),(xOf bits op l).length≤l.length
 | []=>by simp [xOf]
 | s::l=>by
   have h1:=argP_short bits op s
   have h2:=xOf_short bits op l
   unfold xOf at *
   rw [List.flatMap_cons,List.length_append,List.length_cons]
   omega
theorem aOf_snoc (bits:List UInt8) (op:Nat) (l:List (List UInt8)) (s:List UInt8):aOf bits op (l++[s])=aOf bits op l++[(argP bits op s).1]:=by simp [aOf]
theorem xOf_snoc (bits:List UInt8) (op:Nat) (l:List (List UInt8)) (s:List UInt8):xOf bits op (l++[s])=xOf bits op l++(argP bits op s).2:=by simp [xOf]
set_option maxHeartbeats 2000000 in
set_option maxRecDepth 100000 in
theorem find_none (page:Nat) (r0:RA) (rl:List RA) (op:Nat) (w:World) (hlen:rl.length≤1000) (hop:op<256) (hn:lookA op (r0::rl)=none) :
 Calls Tryz.prog 257 #[.int .i64 page,.string (joinA (r0::rl)),.int .u8 op] w fun e w'=>e=.returned (.tuple #[entV ent0 (.slice none 0 0),.bool false])∧Below w.heap.size w w':=by
 have hlk:=fun W=>lookup_any r0 rl op W hlen hop
 rw [hn] at hlk
 unfold lookV at hlk
 generalize joinA (r0::rl)=J at *
 have HL:=Hh hlk; clear hlk hn
 go_enter Tryz.func257,Tryz.ntmps257
 go_wp2_with fail
 refine (HL.out _).mono ?_
 rintro e w1 ⟨rfl,hb⟩
 obtain ⟨p1,rfl⟩:=gw_of_below hb
 clear hb
 go_wp2_with fail
 refine bodyPost_ret (v:=.tuple #[entV ent0 (.slice none 0 0),.bool false]) (by simp [results,Tryz.results257,go_sem,ent0]) rfl ⟨rfl,bl⟩
set_option maxHeartbeats 2000000 in
set_option maxRecDepth 100000 in
theorem find_core (page op n:Nat) (J:ByteArray) (tx bs mn:List UInt8) (A:List (List UInt8)) (al:Bool) (w:World) (HT:Hid (TabsA w)) (HA:Hid (A.length=n)) (hn3:n≤3) (H8:Hid (bs.length=8)) (hop:op<256)
 (HARG:Hid (∀ (j:Nat) (s:List UInt8),A[j]? = some s→s∈argW∧argC bs op s=true))
 (HL:Hid (∀ W,Calls Tryz.prog 191 #[.string J,.int .u8 op] W fun e w'=>e=.returned (.tuple #[.string ⟨tx.toArray⟩,.bool true])∧Below W.heap.size W w'))
 (HP:Hid (∀ W,TabsA W→Calls Tryz.prog 319 #[.string ⟨tx.toArray⟩] W fun e w'=>∃ a c,e=.returned (ruleV bs mn (.slice a n c) al)∧Row w' (.slice a n c) n (strc (A.map fun x=>⟨x.toArray⟩))∧Below W.heap.size W w')) :
 Calls Tryz.prog 257 #[.int .i64 page,.string J,.int .u8 op] w fun e w'=>∃ v,e=.returned (.tuple #[.agg #[.int .i64 page,.int .u8 op,.string ⟨mn.toArray⟩,v,.string ⟨(xOf bs op A).toArray⟩,.bool al],.bool true])∧w'.ownsRow w.heap.size 172 3 v n (opc (aOf bs op A))∧Below w.heap.size w w':=by
 obtain ⟨i0,hi,hz0,hz1,hz2⟩:=info_parts Tryz.infoOperand
 go_enter Tryz.func257,Tryz.ntmps257
 go_wp2_with fail
 refine (HL.out _).mono ?_
 rintro e w1 ⟨rfl,hb⟩
 have hb1:=below_of_alloc hb
 have HBX:=Hh (box_kept hb)
 have HB1:=Hh hb1; clear hb hb1
 go_wp2_with fail
 refine (HP.out w1 (HT.out.below HB1.out)).mono ?_
 rintro e w2 ⟨a,c,rfl,hrow,hb2⟩
 have hb3:=HB1.out.trans (hb2.mono HB1.out.size)
 have hbx:=(hb2.block _ (lt_of_block HBX.out)).trans HBX.out
 have hl2:=lt_of_block hbx
 have HB2:=Hh hb3; clear hb2 hb3
 have HBX2:=Hh hbx; clear hbx
 have HROW:=Hh hrow; clear hrow
 go_wp2_with fail
 obtain ⟨W1,hW1⟩:∃ W1,w2.alloc (.cells #[.string ⟨bs.toArray⟩,.string ⟨mn.toArray⟩,.slice a n c,.bool al] 383)=W1:=⟨_,rfl⟩
 have hs1:W1.heap.size=w2.heap.size+1:=by rw [←hW1]; simp
 have hb21:Below w2.heap.size w2 W1:=by rw [←hW1]; exact (Below.refl _ _).alloc (Nat.le_refl _) _
 rw [hW1,←hs1]
 have HW1:=Hh hW1; clear hW1
 have hnb:=new_block W1 (.cells #[.int .i64 page,.int .u8 op,.string ⟨mn.toArray⟩,.slice none 0 0,.string ⟨#[]⟩,.bool al,.string ⟨bs.toArray⟩,.string ⟨mn.toArray⟩,.slice a n c,.bool al] 387)
 obtain ⟨B,hB⟩:∃ B,W1.heap.size=B:=⟨_,rfl⟩
 rw [hB] at hs1 hnb ⊢
 have hgB:w2.heap.size<B:=by omega
 have HS1:=Hh hs1; clear hs1
 have HBB:=Hh hB; clear hB
 have HNB:=Hh hnb; clear hnb
 go_loopw [44] (fun i wr=>∃ (j:Nat) (v:Value),j≤n∧i=.int .i64 j∧Hid (BuAt wr B ⟨page,op,mn,v,xOf bs op (A.take j),al,bs,mn,a,n,c,al⟩)∧Hid (wr.ownsRow (B+1) 172 3 v j (opc (aOf bs op (A.take j))))∧Hid (Below B W1 wr)) (fun i _=>n - (intOf i).toNat)
 case atStart=>exact ⟨0,.slice none 0 0,Nat.zero_le _,rfl,Hh HNB.out,Hh (World.ownsRow_nil _ _ _ _),Hh ((Below.refl _ _).alloc (Nat.le_of_eq HBB.out.symm) _)⟩
 case round =>
  obtain ⟨j,v,hj,rfl,HBU,HOWN,HBL⟩:=hrel
  have hsz:B<wr.heap.size:=HBU.out.lt
  by_cases hlt:j<n
  · obtain ⟨s,hs⟩:∃ s,A[j]? = some s:=⟨_,List.getElem?_eq_getElem (by rw [HA.out]; exact hlt)⟩
    obtain ⟨hsm,hsc⟩:=HARG.out j s hs
    obtain ⟨a',c',ha',hc',hrow⟩:=HROW.out
    cases ha'
    obtain ⟨g,o,ha,hg,hcell⟩:=hrow (by intro e; have:=strc_len (A.map fun x=>(⟨x.toArray⟩:ByteArray)); rw [e,List.length_map,HA.out] at this; simp at this; omega)
    subst ha
    have hc:=hcell j (by rw [strc_len,List.length_map,HA.out]; exact hlt)
    have hcs:wr.cell? ⟨g,o+j,none⟩=some (.string ⟨s.toArray⟩):=by
     rw [HBL.out.cell (p:=⟨g,o+j,none⟩) (by show g<_; omega),hb21.cell (p:=⟨g,o+j,none⟩) hg,hc]
     simp [strc,hs]
    clear hcell hc hrow
    have hTr:TabsA wr:=((HT.out.below HB2.out).below hb21).below (by rw [HBB.out]; exact HBL.out)
    have hxl:=xOf_short bs op (A.take j)
    rw [List.length_take] at hxl
    have harg:=arg_any B ⟨page,op,mn,v,xOf bs op (A.take j),al,bs,mn,some ⟨g,o,none⟩,n,c,al⟩ s wr hTr HBU.out H8.out hop (by show (xOf bs op (A.take j)).length≤100; omega) hsm hsc
    have hx1:=xOf_snoc bs op (A.take j) s
    have ha1:=aOf_snoc bs op (A.take j) s
    rw [show A.take j++[s]=A.take (j+1) by rw [List.take_add_one,hs]; rfl] at hx1 ha1
    unfold ArgRes at harg
    dsimp only at harg
    rw [←hx1] at harg
    obtain ⟨⟨o0,o1,o2⟩,ho⟩:∃ x,(argP bs op s).1=x:=⟨_,rfl⟩
    rw [ho] at harg ha1
    have HX:=Hh ha1
    have HARG2:=Hh harg
    clear ha1 hx1 harg ho hs hsm hsc hxl hTr
    have hi0:(0:Int)≤(j:Int):=by omega
    have hi1:(j:Int)<(n:Int):=by omega
    go_wp2_with fail
    refine HARG2.out.mono ?_
    rintro e w3 ⟨rfl,hbu3,hk3⟩
    have hown3:=Kb.owns HOWN.out hk3 (own_ne HOWN.out (k:=B) (by omega)).symm
    have hbl3:=HBL.out.trans (hk3.belowN (Nat.le_refl _) (Nat.le_of_lt hsz))
    have hl3:=hbu3.lt
    obtain ⟨c3,f3⟩:=hbu3.args
    dsimp only at c3
    have HBU3:=Hh hbu3; clear hbu3 hk3
    have HOWN3:=Hh hown3; clear hown3
    have HBL3:=Hh hbl3; clear hbl3
    go_wp2_with fail
    go_region_law ((
     refine step_append_src (by rfl) _ _ 22 (by rfl) (B+1) 172 i0 (.agg #[.int .i64 0,.int .i64 0,.int .i64 0]) 3 24 Tryz.underlying22 hi hz0 hz1 hz2 rfl (by decide) v j (opc (aOf bs op (A.take j))) ?_ ?_ (.slice (some ⟨w3.heap.size+1,0,none⟩) 1 1) 1 [.int .i64 o0,.int .i64 o1,.int .i64 o2] ?_ ?_ (by rfl) ?_ (by unfold maxLen; omega) (by omega) ?_ ?_
     · rfl
     · exact owns_below' HOWN3.out (bl)
     · rfl
     · exact .inr ⟨_,1,rfl,src3 (new_block2 w3 _ _)⟩
     · intro u hu; simp at hu; rcases hu with rfl | rfl | rfl<;>rfl
     · exact Nat.le_trans (Nat.succ_le_of_lt hl3) (Below.size (show Below w3.heap.size w3 _ from bl))
     intro v2 w5 hown5 hgrow5 _
     have hbu5:BuAt w5 B ⟨page,op,mn,v,xOf bs op (A.take (j+1)),al,bs,mn,some ⟨g,o,none⟩,n,c,al⟩:=(hgrow5.block B (Nat.lt_of_lt_of_le hl3 (Below.size (show Below w3.heap.size w3 _ from bl))) (own_ne HOWN3.out (k:=B) (by omega))).trans ((Below.block (show Below w3.heap.size w3 _ from bl) B hl3).trans HBU3.out)
     obtain ⟨a2,c2,rfl⟩:=owns_slice hown5
     have hc5:=hbu5.args.1
     have hf5:=hbu5.args.2
     dsimp only at hc5))
    all_goals
     have hown6:=Kb.owns hown5 ((Kb.refl B w5).setCell 3 (.slice a2 (j+1) c2)) (own_ne hown5 (k:=B) (by omega)).symm
     have hbu6:=hbu5.setArgs (.slice a2 (j+1) c2)
     have hbl5:Below B W1 w5:=(HBL3.out.trans (Below.mono (show Below w3.heap.size w3 _ from bl) (Nat.le_of_lt hl3))).grown hgrow5 (Nat.le_trans (Nat.le_of_lt hl3) (Below.size (show Below w3.heap.size w3 _ from bl))) (by
      intro q hq
      rcases HOWN3.out.2 with ⟨h,_⟩ | ⟨g',cap,cur,h,hg',_⟩
      · rw [h] at hq; cases hq
      · rw [h] at hq; have q3:g'=q:=Option.some.inj hq; omega)
     have hbl6:=hbl5.setCell (p:=⟨B,3,none⟩) (Nat.le_refl _) (.slice a2 (j+1) c2)
     have HOWN6:=Hh hown6
     have HBU6:=Hh hbu6
     have HBL6:=Hh hbl6
     clear hown6 hbu6 hbl6 hbl5 hgrow5 hown5
     go_wp2_with fail
     go_roundw
     case rel=>exact ⟨j+1,_,by omega,by go_num,Hh HBU6.out,Hh (by rw [HX.out]; have h7:=HOWN6.out; rwa [show opc (aOf bs op (A.take j)++[(o0,o1,o2)])=opc (aOf bs op (A.take j))++[.int .i64 o0,.int .i64 o1,.int .i64 o2] by simp [opc]]),Hh HBL6.out⟩
     case measure=>simp [intOf]; omega
  · obtain rfl:j=n:=by omega
    obtain ⟨c0,c1,c2,c3,c4,c5⟩:=HBU.out.entry
    dsimp only at c0 c1 c2 c3 c4 c5
    obtain ⟨a2,cc,rfl⟩:=owns_slice HOWN.out
    have hbw:Below w.heap.size w wr:=(HB2.out.trans (hb21.mono HB2.out.size)).trans (HBL.out.mono (by have:=HB2.out.size; omega))
    have hbx:wr.heap[w.heap.size]? = _:=(HBL.out.block w.heap.size (by omega)).trans ((hb21.block _ hl2).trans HBX2.out)
    have HBW:=Hh hbw; clear hbw
    obtain ⟨⟨k0,k1,k2,k3,k4,k5⟩,f0,f1,f2,f3,f4,f5⟩:=cells6 hbx
    clear hbx
    have hAj:A.take j=A:=List.take_of_length_le (by rw [HA.out]; exact Nat.le_refl _)
    rw [hAj] at c4
    have HOWN2:Hid (wr.ownsRow (B+1) 172 3 (.slice a2 j cc) j (opc (aOf bs op A))):=Hh (by have:=HOWN.out; rwa [hAj] at this)
    have hwB:w.heap.size<B:=by omega
    clear HOWN hAj
    have hsl:∃ n2,(Value.slice a2 n2 cc)=.slice a2 j cc:=⟨j,rfl⟩
    go_wp2_with fail
    refine bodyPost_ret (v:=.tuple #[.agg #[.int .i64 page,.int .u8 op,.string ⟨mn.toArray⟩,.slice a2 j cc,.string ⟨(xOf bs op A).toArray⟩,.bool al],.bool true]) (by simp [results,Tryz.results257,go_sem,k0,k1,k2,k3,k4,k5]) rfl ⟨.slice a2 j cc,rfl,?_,?_⟩
    · exact owns_mono (Kb.owns HOWN2.out (((((((Kb.refl w.heap.size wr).setCell 0 _).setCell 1 _).setCell 2 _).setCell 3 _).setCell 4 _).setCell 5 _) (own_ne HOWN2.out (k:=w.heap.size) (by omega)).symm) (by omega)
    · exact (((((HBW.out.setCell (p:=⟨w.heap.size,0,none⟩) (Nat.le_refl _) _).setCell (p:=⟨w.heap.size,1,none⟩) (Nat.le_refl _) _).setCell (p:=⟨w.heap.size,2,none⟩) (Nat.le_refl _) _).setCell (p:=⟨w.heap.size,3,none⟩) (Nat.le_refl _) _).setCell (p:=⟨w.heap.size,4,none⟩) (Nat.le_refl _) _).setCell (p:=⟨w.heap.size,5,none⟩) (Nat.le_refl _) _
theorem entOf_args (page op:Nat) (r:Rule):(entOf page op r).args=aOf r.bits op r.args:=rfl
theorem entOf_len (page op:Nat) (r:Rule):(entOf page op r).args.length=r.args.length:=by rw [entOf_args]; simp [aOf]
theorem find_some (page:Nat) (r0:RA) (rl:List RA) (op:Nat) (r:RA) (w:World) (hT:TabsA w) (hlen:rl.length≤1000) (hop:op<256) (hn:lookA op (r0::rl)=some r) :
 Calls Tryz.prog 257 #[.int .i64 page,.string (joinA (r0::rl)),.int .u8 op] w fun e w'=>∃ v,e=.returned (.tuple #[entV (entOf page op r.1) v,.bool true])∧w'.ownsRow w.heap.size 172 3 v (entOf page op r.1).args.length (opc (entOf page op r.1).args)∧Below w.heap.size w w':=by
 have hlk:=fun W=>lookup_any r0 rl op W hlen hop
 rw [hn] at hlk
 have h:=find_core page op r.1.args.length (joinA (r0::rl)) r.1.text r.1.bits r.1.mn r.1.args r.1.alias w (Hh hT) (Hh rfl) (rule3 r) (Hh (rule8 r)) hop
  (Hh (fun j s hs=>⟨argW_mem r.1 r.2 s (List.mem_of_getElem? hs),argC_ok r.1 r.2 s (List.mem_of_getElem? hs) ⟨op,hop⟩⟩)) (Hh hlk) (Hh (fun W hT=>parse_any r W hT))
 refine h.mono ?_
 rintro e w' ⟨v,he,hr,hb⟩
 refine ⟨v,he,?_,hb⟩
 rw [entOf_len]
 exact hr
end Go.Proofs.YtkldoojonnkfgaaGreatDoor
namespace Go.Proofs.YtkldoojonnkfgaaGreatDoor
open Go.RowKit Go.Sort
def raOf (l:List Rule) (h:∀ r∈l,r∈allR):List RA:=l.pmap (fun r hr=>⟨r,hr⟩) h
theorem raOf_text (l:List Rule) (h:∀ r∈l,r∈allR):(raOf l h).map (·.1.text)=l.map (·.text):=by
 unfold raOf
 rw [List.map_pmap]
 simp
theorem cb_all:∀ r∈cbR,r∈allR:=fun r h=>by unfold allR; simp [h]
theorem main_all:∀ r∈mainR,r∈allR:=fun r h=>by unfold allR; simp [h]
theorem ed_all:∀ r∈edR,r∈allR:=fun r h=>by unfold allR; simp [h]
theorem look_raOf (op:Nat) (hop:op<256):∀ (l:List Rule) (h:∀ r∈l,r∈allR),(lookA op (raOf l h)).map (·.1)=lookR l op
 | [],_=>rfl
 | r::l,h=>by
   have ih:=look_raOf op hop l (fun x hx=>h x (List.mem_cons_of_mem _ hx))
   have hr:r∈allR:=h r List.mem_cons_self
   have hf:fitsT r.text op=r.fits op:=fitsT_eq r hr ⟨op,hop⟩
   unfold lookA lookR raOf at *
   simp only [List.pmap_cons,List.find?_cons,hf]
   cases r.fits op with
   | true=>rfl
   | false=>exact ih
theorem findT_any (page:Nat) (l:List Rule) (h:∀ r∈l,r∈allR) (J:ByteArray) (hJ:J=⟨(joinT (l.map (·.text))).toArray⟩) (hne:l≠[]) (hlen:l.length≤1000) (op:Nat) (hop:op<256) (w:World) (hT:TabsA w) :
 Calls Tryz.prog 257 #[.int .i64 page,.string J,.int .u8 op] w fun e w'=>∃ v,e=.returned (.tuple #[entV ((findP page l op).getD ent0) v,.bool (findP page l op).isSome])∧w'.ownsRow w.heap.size 172 3 v ((findP page l op).getD ent0).args.length (opc ((findP page l op).getD ent0).args)∧Below w.heap.size w w':=by
 obtain ⟨r0,rl,hc⟩:∃ r0 rl,raOf l h=r0::rl:=by
  cases hx:raOf l h with
  | nil=>exfalso; apply hne; have:=congrArg List.length hx; unfold raOf at this; simp at this; exact this
  | cons a b=>exact ⟨a,b,rfl⟩
 have hJ2:J=joinA (r0::rl):=by
  rw [hJ,←hc]
  unfold joinA
  rw [raOf_text]
 have hl2:rl.length≤1000:=by
  have:=congrArg List.length hc
  unfold raOf at this
  simp at this
  omega
 have hlk:=look_raOf op hop l h
 rw [hc] at hlk
 rw [hJ2]
 unfold findP
 rw [←hlk]
 cases hk:lookA op (r0::rl) with
 | none =>
   refine (find_none page r0 rl op w hl2 hop hk).mono ?_
   rintro e w' ⟨he,hb⟩
   exact ⟨_,he,World.ownsRow_nil _ _ _ _,hb⟩
 | some r=>exact find_some page r0 rl op r w hT hl2 hop hk
theorem op_and:∀ op:Fin 256,bits BinOp.or IntKind.u8 (bits BinOp.andNot IntKind.u8 (op.val:Int) 7) 6=((op.val / 8 * 8+6:Nat):Int)∧bits BinOp.and IntKind.u8 (op.val:Int) 7=((op.val % 8:Nat):Int):=by decide +kernel
theorem t91_0 {p:Prop} (h:p:=by
 have hb9:=HBW.out
 refine Below.alloc ?_ (by rw [setCell_size,setCell_size,setCell_size,setCell_size,setCell_size,setCell_size,setCell_size,setCell_size,setCell_size]; omega) _
 with_reducible repeat (refine Below.setCell ?_ (by first | exact Nat.le_refl _ | (show w.heap.size≤g; omega)) _)
 exact hb9):p:=h
theorem t91_1 {p:Prop} (h:p:=by
 rw [HN.out]
 exact owns_mono ((Kb.owns HSET.out (((((((Kb.refl w.heap.size _).setCell 0 _).setCell 1 _).setCell 2 _).setCell 3 _).setCell 4 _).setCell 5 _) (own_ne HSET.out (k:=w.heap.size) (by omega)).symm).alloc _) (by omega)):p:=h
set_option maxHeartbeats 4000000 in
set_option maxRecDepth 100000 in
theorem both_six (page op q s:Nat) (mn:List UInt8) (l:List Op3) (al:Bool) (w:World) (hp1:5≤page) (hp2:page≤6) (hq:bits BinOp.or IntKind.u8 (bits BinOp.andNot IntKind.u8 (op:Int) 7) 6=(q:Int)) (hs:bits BinOp.and IntKind.u8 (op:Int) 7=(s:Int)) (hs8:s<8)
 (HF:Hid (∀ W,TabsA W→Calls Tryz.prog 257 #[.int .i64 page,.string cbS,.int .u8 q] W fun e w'=>∃ v ex,e=.returned (.tuple #[.agg #[.int .i64 page,.int .u8 q,.string ⟨mn.toArray⟩,v,.string ex,.bool al],.bool true])∧w'.ownsRow W.heap.size 172 3 v l.length (opc l)∧Below W.heap.size W w'))
 (HT:Hid (TabsA w)) (h1:1≤l.length) (h2:l.length≤3) (hs6:((s:Int) == 6)=true) :
 Calls Tryz.prog 259 #[.int .i64 page,.int .u8 op] w fun e w'=>∃ v,e=.returned (.agg #[.int .i64 page,.int .u8 op,.string ⟨mn.toArray⟩,v,.string ⟨#[100]⟩,.bool al])∧w'.ownsRow w.heap.size 172 3 v l.length (opc (l.set (l.length - 1) (5,page,0)))∧Below w.heap.size w w':=by
 obtain ⟨i0,hi,hz0,hz1,hz2⟩:=info_parts Tryz.infoOperand
 go_enter Tryz.func259,Tryz.ntmps259
 go_wp2_with fail
 refine (HF.out _ (HT.out.below (bl))).mono ?_
 rintro e w1 ⟨v,ex,rfl,hown,hb⟩
 have h0:=box_kept hb
 have hbw:=below_of_alloc hb
 have hl0:=blk_lt h0
 have hown1:=owns_mono hown (b':=w.heap.size+1) (by simp)
 rcases hown1.2 with ⟨_,hz⟩ | ⟨g,c1,cur,rfl,hg0,hg1,_⟩
 · omega
 replace hg1:=blk_lt hg1
 obtain ⟨a1',c1',ha1,_,hcells⟩:=(WRow.of_owns hown1).op
 cases ha1
 obtain ⟨g',o,ho,_,_,hcells⟩:=hcells (by intro e; rw [e] at h1; simp at h1)
 cases ho
 obtain ⟨x,hx⟩:∃ x,l[l.length - 1]? = some x:=⟨_,List.getElem?_eq_getElem (by omega)⟩
 obtain ⟨d0,d1,d2,q0,q1,q2⟩:=hcells _ x hx
 simp only [Nat.zero_add] at d0 d1 d2 q0 q1 q2
 obtain ⟨⟨r0,r1,r2,r3,r4,r5⟩,e0,e1,e2,e3,e4,e5⟩:=cells6 h0
 have hset:=owns_setO (x:=(5,(page:Int),0)) hown1 (i:=l.length - 1) (by omega)
 have HSET:=Hh hset
 have HBW:=Hh hbw
 have H0:=Hh h0
 clear hown hown1 hb h0 hbw hx hcells hset
 have ws:IntKind.i64.wrap ((l.length:Int) - 1)=(l.length:Int) - 1:=IntWalk.i64_in _ (by omega)
 have ws1:(0:Int)≤(l.length:Int) - 1:=by omega
 have ws2:((l.length:Int) - 1).toNat=l.length - 1:=by omega
 have ws3:(l.length:Int) - 1<(l.length:Int):=by omega
 generalize hn:l.length=n at *
 have HN:=Hh hn; clear hn
 go_wp2_with fail
 refine bodyPost_ret (v:=.agg #[.int .i64 page,.int .u8 op,.string ⟨mn.toArray⟩,.slice (some ⟨g,0,none⟩) n c1,.string ⟨#[100]⟩,.bool al]) (by simp [results,Tryz.results259,go_sem,r0,r1,r2,r3,r4,r5,hl0]) rfl ⟨_,rfl,?_,?_⟩
 · exact t91_1
 · exact t91_0
set_option maxHeartbeats 4000000 in
set_option maxRecDepth 100000 in
theorem both_bit (page op q s:Nat) (mn:List UInt8) (l:List Op3) (al:Bool) (w:World) (hp1:5≤page) (hp2:page≤6) (hq:bits BinOp.or IntKind.u8 (bits BinOp.andNot IntKind.u8 (op:Int) 7) 6=(q:Int)) (hs:bits BinOp.and IntKind.u8 (op:Int) 7=(s:Int)) (hs8:s<8)
 (HF:Hid (∀ W,TabsA W→Calls Tryz.prog 257 #[.int .i64 page,.string cbS,.int .u8 q] W fun e w'=>∃ v ex,e=.returned (.tuple #[.agg #[.int .i64 page,.int .u8 q,.string ⟨mn.toArray⟩,v,.string ex,.bool al],.bool true])∧w'.ownsRow W.heap.size 172 3 v l.length (opc l)∧Below W.heap.size W w'))
 (HT:Hid (TabsA w)) (h1:1≤l.length) (h2:l.length≤3) (hs6:((s:Int) == 6)=false) (hbit:(mn == [66,73,84])=true) :
 Calls Tryz.prog 259 #[.int .i64 page,.int .u8 op] w fun e w'=>∃ v,e=.returned (.agg #[.int .i64 page,.int .u8 op,.string ⟨mn.toArray⟩,v,.string ⟨#[100]⟩,.bool true])∧w'.ownsRow w.heap.size 172 3 v l.length (opc (l.set (l.length - 1) (5,page,0)))∧Below w.heap.size w w':=by
 obtain ⟨i0,hi,hz0,hz1,hz2⟩:=info_parts Tryz.infoOperand
 go_enter Tryz.func259,Tryz.ntmps259
 go_wp2_with fail
 refine (HF.out _ (HT.out.below (bl))).mono ?_
 rintro e w1 ⟨v,ex,rfl,hown,hb⟩
 have h0:=box_kept hb
 have hbw:=below_of_alloc hb
 have hl0:=blk_lt h0
 have hown1:=owns_mono hown (b':=w.heap.size+1) (by simp)
 rcases hown1.2 with ⟨_,hz⟩ | ⟨g,c1,cur,rfl,hg0,hg1,_⟩
 · omega
 replace hg1:=blk_lt hg1
 obtain ⟨a1',c1',ha1,_,hcells⟩:=(WRow.of_owns hown1).op
 cases ha1
 obtain ⟨g',o,ho,_,_,hcells⟩:=hcells (by intro e; rw [e] at h1; simp at h1)
 cases ho
 obtain ⟨x,hx⟩:∃ x,l[l.length - 1]? = some x:=⟨_,List.getElem?_eq_getElem (by omega)⟩
 obtain ⟨d0,d1,d2,q0,q1,q2⟩:=hcells _ x hx
 simp only [Nat.zero_add] at d0 d1 d2 q0 q1 q2
 obtain ⟨⟨r0,r1,r2,r3,r4,r5⟩,e0,e1,e2,e3,e4,e5⟩:=cells6 h0
 have hset:=owns_setO (x:=(5,(page:Int),0)) hown1 (i:=l.length - 1) (by omega)
 have HSET:=Hh hset
 have HBW:=Hh hbw
 have H0:=Hh h0
 clear hown hown1 hb h0 hbw hx hcells hset
 have ws:IntKind.i64.wrap ((l.length:Int) - 1)=(l.length:Int) - 1:=IntWalk.i64_in _ (by omega)
 have ws1:(0:Int)≤(l.length:Int) - 1:=by omega
 have ws2:((l.length:Int) - 1).toNat=l.length - 1:=by omega
 have ws3:(l.length:Int) - 1<(l.length:Int):=by omega
 generalize hn:l.length=n at *
 have HN:=Hh hn; clear hn
 go_wp2_with fail
 refine bodyPost_ret (v:=.agg #[.int .i64 page,.int .u8 op,.string ⟨mn.toArray⟩,.slice (some ⟨g,0,none⟩) n c1,.string ⟨#[100]⟩,.bool true]) (by simp [results,Tryz.results259,go_sem,r0,r1,r2,r3,r4,r5,hl0]) rfl ⟨_,rfl,?_,?_⟩
 · exact t91_1
 · exact t91_0
set_option maxHeartbeats 4000000 in
set_option maxRecDepth 100000 in
theorem both_reg (page op q s:Nat) (mn:List UInt8) (l:List Op3) (al:Bool) (w:World) (hp1:5≤page) (hp2:page≤6) (hq:bits BinOp.or IntKind.u8 (bits BinOp.andNot IntKind.u8 (op:Int) 7) 6=(q:Int)) (hs:bits BinOp.and IntKind.u8 (op:Int) 7=(s:Int)) (hs8:s<8)
 (HF:Hid (∀ W,TabsA W→Calls Tryz.prog 257 #[.int .i64 page,.string cbS,.int .u8 q] W fun e w'=>∃ v ex,e=.returned (.tuple #[.agg #[.int .i64 page,.int .u8 q,.string ⟨mn.toArray⟩,v,.string ex,.bool al],.bool true])∧w'.ownsRow W.heap.size 172 3 v l.length (opc l)∧Below W.heap.size W w'))
 (HT:Hid (TabsA w)) (h1:1≤l.length) (h2:l.length≤3) (hs6:((s:Int) == 6)=false) (hbit:(mn == [66,73,84])=false) :
 Calls Tryz.prog 259 #[.int .i64 page,.int .u8 op] w fun e w'=>∃ v,e=.returned (.agg #[.int .i64 page,.int .u8 op,.string ⟨mn.toArray⟩,v,.string ⟨#[100]⟩,.bool al])∧w'.ownsRow w.heap.size 172 3 v (l.length+1) (opc (l.set (l.length - 1) (5,page,0)++[(1,(s:Int),0)]))∧Below w.heap.size w w':=by
 obtain ⟨i0,hi,hz0,hz1,hz2⟩:=info_parts Tryz.infoOperand
 go_enter Tryz.func259,Tryz.ntmps259
 go_wp2_with fail
 refine (HF.out _ (HT.out.below (bl))).mono ?_
 rintro e w1 ⟨v,ex,rfl,hown,hb⟩
 have h0:=box_kept hb
 have hbw:=below_of_alloc hb
 have hl0:=blk_lt h0
 have hown1:=owns_mono hown (b':=w.heap.size+1) (by simp)
 rcases hown1.2 with ⟨_,hz⟩ | ⟨g,c1,cur,rfl,hg0,hg1,_⟩
 · omega
 replace hg1:=blk_lt hg1
 obtain ⟨a1',c1',ha1,_,hcells⟩:=(WRow.of_owns hown1).op
 cases ha1
 obtain ⟨g',o,ho,_,_,hcells⟩:=hcells (by intro e; rw [e] at h1; simp at h1)
 cases ho
 obtain ⟨x,hx⟩:∃ x,l[l.length - 1]? = some x:=⟨_,List.getElem?_eq_getElem (by omega)⟩
 obtain ⟨d0,d1,d2,q0,q1,q2⟩:=hcells _ x hx
 simp only [Nat.zero_add] at d0 d1 d2 q0 q1 q2
 obtain ⟨⟨r0,r1,r2,r3,r4,r5⟩,e0,e1,e2,e3,e4,e5⟩:=cells6 h0
 have hset:=owns_setO (x:=(5,(page:Int),0)) hown1 (i:=l.length - 1) (by omega)
 have HSET:=Hh hset
 have HBW:=Hh hbw
 have H0:=Hh h0
 clear hown hown1 hb h0 hbw hx hcells hset
 have ws:IntKind.i64.wrap ((l.length:Int) - 1)=(l.length:Int) - 1:=IntWalk.i64_in _ (by omega)
 have ws1:(0:Int)≤(l.length:Int) - 1:=by omega
 have ws2:((l.length:Int) - 1).toNat=l.length - 1:=by omega
 have ws3:(l.length:Int) - 1<(l.length:Int):=by omega
 generalize hn:l.length=n at *
 have HN:=Hh hn; clear hn
 have hgb:w.heap.size<g:=by omega
 have hne1:w1.heap.size≠g:=by omega
 go_wp2_with (at_builtin; refine wpList_append_own _ rfl _ _ 22 rfl (w.heap.size+1) 172 i0 (.agg #[.int .i64 0,.int .i64 0,.int .i64 0]) 3 24 Tryz.underlying22 hi hz0 hz1 hz2 rfl (by decide) _ _ _ rfl ((HSET.out.alloc _).alloc _) ⟨w1.heap.size+1,0,none⟩ 1 1 [.int .i64 1,.int .i64 s,.int .i64 0] rfl rfl ?c1 ?c2 ?c3 ?c4 ?c5 ?_)
 case c1=>exact src3 (by rw [show w1.heap.size+1=(((((w1.setCell ⟨g,(n - 1) * 3,none⟩ (.int .i64 5)).setCell ⟨g,(n - 1) * 3+1,none⟩ (.int .i64 page)).setCell ⟨g,(n - 1) * 3+2,none⟩ (.int .i64 0))).alloc (.cells #[.int .i64 page,.int .u8 op,.string ⟨mn.toArray⟩,.slice (some ⟨g,0,none⟩) n c1,.string ⟨#[100]⟩,.bool al] 41)).heap.size by rw [World.size_alloc,setCell_size,setCell_size,setCell_size]]; exact new_block _ _)
 case c2=>intro u hu; simp at hu; rcases hu with rfl | rfl | rfl<;>rfl
 case c3=>unfold maxLen; omega
 case c4=>omega
 case c5=>rw [World.size_alloc,World.size_alloc,setCell_size,setCell_size,setCell_size]; omega
 intro v2 w3 hown3 hgrow3 _
 obtain ⟨a2,c2,rfl⟩:=owns_slice hown3
 have hX0:=blk_alloc (o':=.cells #[.int .i64 1,.int .i64 s,.int .i64 0] 172) (blk_alloc (o':=(.cells #[.int .i64 page,.int .u8 op,.string ⟨mn.toArray⟩,.slice (some ⟨g,0,none⟩) n c1,.string ⟨#[100]⟩,.bool al] 41)) (blk_other (blk_other (blk_other H0.out (b:=g) (i:=(n - 1) * 3) (v:=.int .i64 5) (by omega)) (b:=g) (i:=(n - 1) * 3+1) (v:=.int .i64 page) (by omega)) (b:=g) (i:=(n - 1) * 3+2) (v:=.int .i64 0) (by omega)))
 have hX1:=blk_alloc (o':=.cells #[.int .i64 1,.int .i64 s,.int .i64 0] 172) (new_block (((w1.setCell ⟨g,(n - 1) * 3,none⟩ (.int .i64 5)).setCell ⟨g,(n - 1) * 3+1,none⟩ (.int .i64 page)).setCell ⟨g,(n - 1) * 3+2,none⟩ (.int .i64 0)) (.cells #[.int .i64 page,.int .u8 op,.string ⟨mn.toArray⟩,.slice (some ⟨g,0,none⟩) n c1,.string ⟨#[100]⟩,.bool al] 41))
 have hszS:(((w1.setCell ⟨g,(n - 1) * 3,none⟩ (.int .i64 5)).setCell ⟨g,(n - 1) * 3+1,none⟩ (.int .i64 page)).setCell ⟨g,(n - 1) * 3+2,none⟩ (.int .i64 0)).heap.size=w1.heap.size:=by rw [setCell_size,setCell_size,setCell_size]
 rw [hszS] at hX1
 have hr3:=(hgrow3.block w.heap.size (blk_lt hX0) (fun e=>by have q3:w.heap.size=g:=Option.some.inj e; omega)).trans hX0
 have hn3:=(hgrow3.block w1.heap.size (blk_lt hX1) (fun e=>hne1 (Option.some.inj e))).trans hX1
 have hbX:Below w.heap.size w (((w1.setCell ⟨g,(n - 1) * 3,none⟩ (.int .i64 5)).setCell ⟨g,(n - 1) * 3+1,none⟩ (.int .i64 page)).setCell ⟨g,(n - 1) * 3+2,none⟩ (.int .i64 0)):=((HBW.out.setCell (p:=⟨g,(n - 1) * 3,none⟩) (by show w.heap.size≤g; omega) _).setCell (p:=⟨g,(n - 1) * 3+1,none⟩) (by show w.heap.size≤g; omega) _).setCell (p:=⟨g,(n - 1) * 3+2,none⟩) (by show w.heap.size≤g; omega) _
 have hb3:=((hbX.alloc (by rw [hszS]; omega) (.cells #[.int .i64 page,.int .u8 op,.string ⟨mn.toArray⟩,.slice (some ⟨g,0,none⟩) n c1,.string ⟨#[100]⟩,.bool al] 41)).alloc (by rw [World.size_alloc,hszS]; omega) (.cells #[.int .i64 1,.int .i64 s,.int .i64 0] 172)).grown hgrow3 (by rw [World.size_alloc,World.size_alloc,hszS]; omega) (fun q e=>by have q3:g=q:=Option.some.inj e; omega)
 have hl3:=blk_lt hn3
 have hown4:=owns_mono hown3 (b':=w.heap.size+1) (Nat.le_refl _)
 have hne3:some w1.heap.size≠(Value.slice a2 (n+1) c2).ownBlock:=fun e=>by
  rcases hown3.2 with ⟨h,_⟩ | ⟨g',cap,cur,h,_,hh,_⟩
  · rw [h] at e; cases e
  · rw [h] at e
    have q3:w1.heap.size=g':=Option.some.inj e
    rw [←q3,hn3] at hh
    have:=Option.some.inj hh
    simp at this
 obtain ⟨⟨t0,t1,t2,t3,t4,t5⟩,y0,y1,y2,y3,y4,y5⟩:=cells6 hn3
 obtain ⟨⟨r0,r1,r2,r3,r4,r5⟩,e0,e1,e2,e3,e4,e5⟩:=cells6 hr3
 have HOWN3:=Hh hown3
 have HB3:=Hh hb3
 clear hown3 hgrow3 hX0 hX1 hszS hr3 hn3 hbX hb3 hown4
 go_wp2_with fail
 refine bodyPost_ret (v:=.agg #[.int .i64 page,.int .u8 op,.string ⟨mn.toArray⟩,.slice a2 (n+1) c2,.string ⟨#[100]⟩,.bool al]) (by simp [results,Tryz.results259,go_sem,r0,r1,r2,r3,r4,r5]) rfl ⟨_,rfl,?_,?_⟩
 · rw [HN.out,show opc (l.set (n - 1) (5,(page:Int),0)++[(1,(s:Int),0)])=opc (l.set (n - 1) (5,(page:Int),0))++[.int .i64 1,.int .i64 s,.int .i64 0] by simp [opc]]
   have h7:=Kb.owns HOWN3.out ((Kb.refl w1.heap.size w3).setCell 3 (.slice a2 (n+1) c2)) hne3.symm
   exact owns_mono (Kb.owns h7 (((((((Kb.refl w.heap.size _).setCell 0 _).setCell 1 _).setCell 2 _).setCell 3 _).setCell 4 _).setCell 5 _) (own_ne h7 (k:=w.heap.size) (by omega)).symm) (by omega)
 · have hb9:=HB3.out
   with_reducible repeat (refine Below.setCell ?_ (by first | exact Nat.le_refl _ | (show w.heap.size≤w1.heap.size; omega)) _)
   exact hb9
end Go.Proofs.YtkldoojonnkfgaaGreatDoor
