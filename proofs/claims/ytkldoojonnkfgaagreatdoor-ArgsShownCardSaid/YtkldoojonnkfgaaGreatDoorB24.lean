/- Joined texts: Cut, Texts1, ArgU, ParseT, Lookup. -/
import Derived.Test.YtkldoojonnkfgaaGreatDoorB09
import Derived.Test.YtkldoojonnkfgaaGreatDoorB22
import Derived.Test.YtkldoojonnkfgaaGreatDoorB23
import Derived.RangeFuncBound
namespace Go.Proofs.YtkldoojonnkfgaaGreatDoor
open Go.RowKit Go.Sort
theorem cut_one_no {l:List UInt8} {c:UInt8} (h:Lib.indexByte l c<0):Lib.cut l [c]=(l,[],false):=by
 unfold Lib.cut
 rw [Lib.index_one,if_neg (by omega)]
theorem cut_one_yes {l:List UInt8} {c:UInt8} (h:0≤Lib.indexByte l c):Lib.cut l [c]=(l.take (Lib.indexByte l c).toNat,l.drop ((Lib.indexByte l c).toNat+1),true):=by
 unfold Lib.cut
 rw [Lib.index_one,if_pos (by omega)]
 rfl
theorem ext_take (s:ByteArray) (o:Nat):s.extract 0 o=⟨(s.data.toList.take o).toArray⟩:=by
 apply ByteArray.ext
 rw [ByteArray.data_extract]
 apply Array.toList_inj.1
 rw [Array.toList_extract]
 simp [List.extract]
theorem ext_drop (s:ByteArray) (o:Nat):s.extract o s.size=⟨(s.data.toList.drop o).toArray⟩:=by
 apply ByteArray.ext
 rw [ByteArray.data_extract]
 apply Array.toList_inj.1
 rw [Array.toList_extract]
 simp only [List.extract]
 rw [List.take_of_length_le (by rw [List.length_drop,Array.length_toList]; exact Nat.le_refl _)]
set_option maxHeartbeats 400000 in
theorem cut1_lite (s:ByteArray) (c:UInt8) (w:World) (hs:s.size≤100000000) :
 Calls Tryz.prog 318 #[.string s,.string ⟨#[c]⟩] w fun e w'=>e=.returned (.tuple #[.string ⟨(Lib.cut s.data.toList [c]).1.toArray⟩,.string ⟨(Lib.cut s.data.toList [c]).2.1.toArray⟩,.bool (Lib.cut s.data.toList [c]).2.2])∧∃ n,w'=w.drewN n:=by
 obtain ⟨i,hi⟩:∃ i,Lib.indexByte s.data.toList c=i:=⟨_,rfl⟩
 have hge:=Lib.indexByte_ge s.data.toList c
 have hidx:=Tryz.stringslite_Index_one s c w
 rw [hi] at hidx hge
 have HIDX:=Hh hidx; clear hidx
 by_cases h0:0≤i
 · have hlt:i<s.size:=by
    obtain ⟨o,rfl⟩:=Int.eq_ofNat_of_zero_le h0
    have:=(Lib.indexByte_some hi).1
    have h2:=(List.getElem?_eq_some_iff.1 this).1
    have h3:s.data.toList.length=s.size:=by show s.data.toList.length=s.data.size; rw [Array.length_toList]
    omega
   have hcut:=cut_one_yes (l:=s.data.toList) (c:=c) (by rw [hi]; exact h0)
   rw [hi] at hcut
   rw [hcut]
   obtain ⟨o,rfl⟩:=Int.eq_ofNat_of_zero_le h0
   have HI:=Hh hi; clear hi hcut
   have w1:IntKind.i64.wrap ((o:Int)+1)=(o:Int)+1:=IntWalk.i64_in _ (by omega)
   go_enter Tryz.func318,Tryz.ntmps318
   go_wp2_with fail
   refine HIDX.out.mono ?_
   rintro e w1 ⟨rfl,rfl⟩
   go_wp2_with fail
   go_quiet (fail)
   go_wp2_with fail
   go_ret3
   refine ⟨?_,_,rfl⟩
   show Ending.returned (.tuple #[.string (s.extract 0 o),.string (s.extract (o+1) s.size),.bool true])=_
   rw [ext_take,ext_drop]
   rfl
 · have hcut:=cut_one_no (l:=s.data.toList) (c:=c) (by rw [hi]; omega)
   rw [hcut]
   clear hcut hi
   go_enter Tryz.func318,Tryz.ntmps318
   go_wp2_with fail
   refine HIDX.out.mono ?_
   rintro e w1 ⟨rfl,rfl⟩
   go_wp2_with fail
   go_ret3
   exact ⟨rfl,0,rfl⟩
set_option maxHeartbeats 400000 in
theorem cut1_any (s:ByteArray) (c:UInt8) (w:World) (hs:s.size≤100000000) :
 Calls Tryz.prog 255 #[.string s,.string ⟨#[c]⟩] w fun e w'=>e=.returned (.tuple #[.string ⟨(Lib.cut s.data.toList [c]).1.toArray⟩,.string ⟨(Lib.cut s.data.toList [c]).2.1.toArray⟩,.bool (Lib.cut s.data.toList [c]).2.2])∧∃ n,w'=w.drewN n:=by
 generalize hR:Lib.cut s.data.toList [c]=R
 have h:=cut1_lite s c w hs
 rw [hR] at h
 clear hR
 have H:=Hh h; clear h
 go_enter Tryz.func255,Tryz.ntmps255
 go_wp2_with fail
 refine H.out.mono ?_
 rintro e w1 ⟨rfl,n,rfl⟩
 go_wp2_with fail
 go_ret3
 exact ⟨rfl,n,rfl⟩
end Go.Proofs.YtkldoojonnkfgaaGreatDoor
namespace Go.Proofs.YtkldoojonnkfgaaGreatDoor
open Go.RowKit Go.Sort Go.Shelf
attribute [local go_sem] Oper.semAt_some
abbrev RA:={ r:Rule // r∈allR }
def joinA (l:List RA):ByteArray:=⟨(joinT (l.map (·.1.text))).toArray⟩
def StrB (b:Nat) (W:World) (s:ByteArray):Prop:=W.heap[b]? = some (.cells #[.string s] 9 (0,0))
theorem StrB.cell {b:Nat} {W:World} {s:ByteArray} (h:StrB b W s):W.cell? ⟨b,0,none⟩=some (.string s):=by unfold StrB at h; simp [World.cell?,h]
theorem StrB.frozen {b:Nat} {W:World} {s:ByteArray} (h:StrB b W s):W.frozen? ⟨b,0,none⟩=false:=by unfold StrB at h; simp [World.frozen?,h]
theorem StrB.lt {b:Nat} {W:World} {s:ByteArray} (h:StrB b W s):b<W.heap.size:=(Array.getElem?_eq_some_iff.1 h).1
theorem StrB.set {b:Nat} {W:World} {s t:ByteArray} (h:StrB b W s):StrB b (W.setCell ⟨b,0,none⟩ (.string t)) t:=by
 unfold StrB at *
 show (W.heap.modify b _)[b]? = _
 rw [Array.getElem?_eq_getElem (by rw [Array.size_modify]; exact (Array.getElem?_eq_some_iff.1 h).1),Array.getElem_modify_self,(Array.getElem?_eq_some_iff.1 h).2]
 rfl
theorem StrB.below {b n:Nat} {A B:World} {s:ByteArray} (h:StrB b A s) (hb:Below n A B) (hn:b<n):StrB b B s:=(hb.block b hn).trans h
theorem Kb.drewN {b:Nat} {u w:World} (h:Kb b u w) (n:Nat):Kb b u (w.drewN n):=⟨h.os,h.tape,h.output,h.size,h.block⟩
def StB (b:Nat) (A B:World):Prop:=Kb b A B∧∃ s,StrB b A s
def KeepB (b:Nat) (A B:World):Prop:=B.heap[b]? = A.heap[b]?
theorem keepB_t {b:Nat} {A B C:World} (h:KeepB b A B) (k:KeepB b B C):KeepB b A C:=Eq.trans k h
theorem keepB_b {b:Nat} {w:World} (hb:b<w.heap.size) (W:World) (l:Nat) (o o':Obj) (hl:w.heap.size≤l) (_:W.heap[l]? = some o) (_:o.isCells=false) (_:o.isWalk=false):KeepB b W (W.putObj l o'):=World.putObj_heap_other (by omega)
theorem rule_ok (r:RA):parseOk r.1=true:=rules_parse r.1 r.2
theorem rule_parts (r:RA):9≤r.1.text.length∧r.1.text.length≤100∧(∀ b∈r.1.text,b≠59):=by
 have h:=rule_ok r
 unfold parseOk at h
 simp only [Bool.and_eq_true,decide_eq_true_eq,List.all_eq_true] at h
 obtain ⟨⟨⟨⟨⟨⟨h1,h2⟩,_⟩,h3⟩,_⟩,h4⟩,_⟩:=h
 exact ⟨h2,h4,h3⟩
theorem joinA_cut (r:RA) (l:List RA):Lib.cut (joinA (r::l)).data.toList [59]=(r.1.text,(joinA l).data.toList,!l.isEmpty):=by
 have:=cut_joinT (t:=r.1.text) (ts:=l.map (·.1.text)) (rule_parts r).2.2
 unfold joinA
 simp only [List.map_cons]
 rw [this]
 cases l<;>simp
theorem joinA_size:∀ l:List RA,(joinA l).size≤l.length * 101
 | []=>by show ([]:List UInt8).toArray.size≤_; simp
 | [r]=>by
   have:=(rule_parts r).2.1
   show (r.1.text.toArray.size)≤_
   simp; omega
 | r::s::l=>by
   have h1:=(rule_parts r).2.1
   have h2:=joinA_size (s::l)
   have e:(joinA (r::s::l)).size=r.1.text.length+1+(joinA (s::l)).size:=by
    show ((r.1.text++59::joinT ((s::l).map (·.1.text))).toArray.size)=_
    rw [List.size_toArray,List.length_append,List.length_cons]
    show _=_+(joinT ((s::l).map (·.1.text))).toArray.size
    rw [List.size_toArray]; omega
   rw [e]
   simp only [List.length_cons] at h2 ⊢
   omega
set_option maxRecDepth 100000 in
set_option maxHeartbeats 1000000 in
theorem texts1_go (n b:Nat) (hn:1≤n) (r0:RA) (rl:List RA) (hlen:rl.length≤1000) :
 SeqGo Fence.wide n Tryz.prog 317 #[.pointer (some ⟨b,0,none⟩)] (fun x:RA=>#[.string ⟨x.1.text.toArray⟩]) (KeepB b) (StB b) (fun W=>StrB b W (joinA (r0::rl))) (fun _ _=>True) (fun xs=>xs=r0::rl) (fun pre=>pre <+: r0::rl) (rl.length+1):=by
 intro l J Jx W hR hJ hJx hY h0
 refine callsIn_of_wp Tryz.func317 rfl trivial ?_ rfl
 simp only [Tryz.ntmps317,List.size_toArray,List.length_cons,List.length_nil,Nat.reduceAdd,Nat.reduceSub,Array.replicate_succ,Array.replicate_zero,List.push_toArray,List.append_toArray,List.nil_append,List.cons_append]
 gi_wp2
 gi_loopg [3] (rl.length+2) (fun k more wr=>∃ (pre rest:List RA),r0::rl=pre++rest∧more=.bool (!rest.isEmpty)∧Hid (rest≠[]→StrB b wr (joinA rest))∧Hid (J pre wr)∧rest.length<k)
 case atStart=>exact ⟨[],r0::rl,rfl,rfl,Hh (fun _=>hR),Hh h0,by simp⟩
 case round =>
  obtain ⟨pre,rest,hx,rfl,HSt,hj,hk⟩:=hrel
  cases rest with
  | nil =>
    have hpre:pre=r0::rl:=by rw [hx,List.append_nil]
    have HP:=Hh hpre; clear hpre hx
    gi_wp2
    go_end0
    exact ⟨⟨_,rfl⟩,.inl ⟨pre,HP.out,hj.out⟩⟩
  | cons r rest =>
    have hst:=HSt.out (by simp)
    have hcl:=hst.cell
    have hfl:=hst.frozen
    have hlt:=hst.lt
    have hcut:=cut1_any (joinA (r::rest)) 59 wr (by have:=joinA_size (r::rest); have h2:=congrArg List.length hx; simp only [List.length_append,List.length_cons] at h2 this; omega)
    rw [joinA_cut] at hcut
    have hstb:∀ q,StB b wr ((wr.drewN q).setCell ⟨b,0,none⟩ (.string (joinA rest))):=fun q=>⟨Kb.setCell (Kb.drewN (Kb.refl b wr) q) 0 _,⟨_,hst⟩⟩
    have hset:∀ q,StrB b ((wr.drewN q).setCell ⟨b,0,none⟩ (.string (joinA rest))) (joinA rest):=fun q=>StrB.set (W:=wr.drewN q) hst
    have hplen:pre.length<rl.length+1:=by have h2:=congrArg List.length hx; simp only [List.length_append,List.length_cons] at h2; omega
    have hY2:=fun q=>hY pre r _ (hJ _ _ _ hj.out (hstb q)) trivial hplen
    have HY2:=Hh hY2; clear hY2
    have HCUT:=Hh hcut; clear hcut
    have HSET:=Hh hset; clear hset hst hstb
    have HX:=Hh hx; clear hx
    gi_wp2_with (refine ⟨trivial,?_⟩; gi_at_call 255; refine (callsIn_wide.2 HCUT.out).mono ?_; rintro e w' ⟨rfl,q,rfl⟩; obtain ⟨fn,tmps,assign,body,hy,hR⟩:=HY2.out q)
    refine hR.mono ?_
    rintro e W3 (⟨rfl,hJ3,hk3⟩ | ⟨rfl,hJx3⟩)
    · have h3:StrB b W3 (joinA rest):=Eq.trans hk3 (HSET.out _)
      have H3:=Hh h3; clear h3
      gi_wp2
      gi_roundg (rest.length+1)
      case measure=>simp only [List.length_cons] at hk; omega
      case rel=>exact ⟨pre++[r],rest,by rw [HX.out,List.append_assoc]; rfl,rfl,Hh (fun _=>H3.out),Hh hJ3,by omega⟩
    · gi_wp2
      refine bodyPost_ret (results_none rfl _ _ _) rfl ?_
      exact ⟨⟨_,rfl⟩,.inr ⟨pre++[r],⟨rest,by rw [HX.out,List.append_assoc]; rfl⟩,hJx3⟩⟩
end Go.Proofs.YtkldoojonnkfgaaGreatDoor
namespace Go.Proofs.YtkldoojonnkfgaaGreatDoor
open Go.RowKit Go.Sort
def argW:List (List UInt8):=[[40,66,67,41],[40,67,41],[40,68,69,41],[40,72,76,41],[40,83,80,41],[40,110,41],[40,119,41],[48],[49],[50],[65],[65,70],[65,70,39],[68,69],[72,76],[73],[82],[83,80],[98],[99],[101],[107],[110],[112],[113],[114],[115],[116],[119]]
def argC (bits:List UInt8) (op:Nat) (s:List UInt8):Bool :=
 match s with
 | [c]=>if c=114∨c=115 then decide (fieldV op c 0 bits 0<8) else if c=112∨c=113 then decide (fieldV op c 0 bits 0<4) else true
 | _=>true
theorem argW_mem:∀ r∈allR,∀ s∈r.args,s∈argW:=by decide +kernel
set_option maxRecDepth 100000 in
theorem argC_ok:∀ r∈allR,∀ s∈r.args,∀ op:Fin 256,argC r.bits op.val s=true:=by decide +kernel
def wordsR:List (List UInt8):=[[40,66,67,41],[40,67,41],[40,68,69,41],[40,72,76,41],[40,83,80,41],[65],[65,70],[65,70,39],[68,69],[72,76],[73],[82],[83,80]]
theorem wordT_eq:∀ s∈wordsR,wordT s=wordV s:=by decide +kernel
theorem rule8 (r:RA):r.1.bits.length=8:=by
 have h:=rule_ok r
 unfold parseOk at h
 simp only [Bool.and_eq_true,decide_eq_true_eq] at h
 exact h.1.1.2
theorem rule3 (r:RA):r.1.args.length≤3:=by
 have h:=rule_ok r
 unfold parseOk at h
 simp only [Bool.and_eq_true,decide_eq_true_eq] at h
 exact h.2
theorem arg_any (b:Nat) (u:Bu) (s:List UInt8) (w:World) (hT:TabsA w) (hB:BuAt w b u) (h8:u.bits.length=8) (hop:u.op<256) (hx:u.ex.length≤100) (hs:s∈argW) (hC:argC u.bits u.op s=true) :
 Calls Tryz.prog 320 #[.pointer (some ⟨b,0,none⟩),.string ⟨s.toArray⟩] w (ArgRes b u (argP u.bits u.op s) w):=by
 unfold argW at hs
 simp only [List.mem_cons,List.not_mem_nil,or_false] at hs
 rcases hs with rfl | rfl | rfl | rfl | rfl | rfl | rfl | rfl | rfl | rfl | rfl | rfl | rfl | rfl | rfl | rfl | rfl | rfl | rfl | rfl | rfl | rfl | rfl | rfl | rfl | rfl | rfl | rfl | rfl
 · rw [show argP u.bits u.op [40,66,67,41]=(wordT [40,66,67,41],[]) from rfl,wordT_eq [40,66,67,41] (by decide)]
   exact (arg_word b [40,66,67,41] w (by decide +kernel) (by decide) (by decide) (by decide)).mono fun e w' h=>argRes_of hB h
 · rw [show argP u.bits u.op [40,67,41]=(wordT [40,67,41],[]) from rfl,wordT_eq [40,67,41] (by decide)]
   exact (arg_word b [40,67,41] w (by decide +kernel) (by decide) (by decide) (by decide)).mono fun e w' h=>argRes_of hB h
 · rw [show argP u.bits u.op [40,68,69,41]=(wordT [40,68,69,41],[]) from rfl,wordT_eq [40,68,69,41] (by decide)]
   exact (arg_word b [40,68,69,41] w (by decide +kernel) (by decide) (by decide) (by decide)).mono fun e w' h=>argRes_of hB h
 · rw [show argP u.bits u.op [40,72,76,41]=(wordT [40,72,76,41],[]) from rfl,wordT_eq [40,72,76,41] (by decide)]
   exact (arg_word b [40,72,76,41] w (by decide +kernel) (by decide) (by decide) (by decide)).mono fun e w' h=>argRes_of hB h
 · rw [show argP u.bits u.op [40,83,80,41]=(wordT [40,83,80,41],[]) from rfl,wordT_eq [40,83,80,41] (by decide)]
   exact (arg_word b [40,83,80,41] w (by decide +kernel) (by decide) (by decide) (by decide)).mono fun e w' h=>argRes_of hB h
 · rw [show argP u.bits u.op [40,110,41]=((7,0,0),[110]) from rfl]
   exact arg_mn b u w hB hx
 · rw [show argP u.bits u.op [40,119,41]=((7,0,0),[119]) from rfl]
   exact arg_mw b u w hB hx
 · rw [show argP u.bits u.op [48]=(((6:Int),(0:Int),(0:Int)),[]) from rfl]
   exact (arg_0 b w).mono fun e w' h=>argRes_of hB h
 · rw [show argP u.bits u.op [49]=(((6:Int),(0:Int),(1:Int)),[]) from rfl]
   exact (arg_1 b w).mono fun e w' h=>argRes_of hB h
 · rw [show argP u.bits u.op [50]=(((6:Int),(0:Int),(2:Int)),[]) from rfl]
   exact (arg_2 b w).mono fun e w' h=>argRes_of hB h
 · rw [show argP u.bits u.op [65]=(wordT [65],[]) from rfl,wordT_eq [65] (by decide)]
   exact (arg_A b w).mono fun e w' h=>argRes_of hB h
 · rw [show argP u.bits u.op [65,70]=(wordT [65,70],[]) from rfl,wordT_eq [65,70] (by decide)]
   exact (arg_word b [65,70] w (by decide +kernel) (by decide) (by decide) (by decide)).mono fun e w' h=>argRes_of hB h
 · rw [show argP u.bits u.op [65,70,39]=(wordT [65,70,39],[]) from rfl,wordT_eq [65,70,39] (by decide)]
   exact (arg_word b [65,70,39] w (by decide +kernel) (by decide) (by decide) (by decide)).mono fun e w' h=>argRes_of hB h
 · rw [show argP u.bits u.op [68,69]=(wordT [68,69],[]) from rfl,wordT_eq [68,69] (by decide)]
   exact (arg_word b [68,69] w (by decide +kernel) (by decide) (by decide) (by decide)).mono fun e w' h=>argRes_of hB h
 · rw [show argP u.bits u.op [72,76]=(wordT [72,76],[]) from rfl,wordT_eq [72,76] (by decide)]
   exact (arg_word b [72,76] w (by decide +kernel) (by decide) (by decide) (by decide)).mono fun e w' h=>argRes_of hB h
 · rw [show argP u.bits u.op [73]=(wordT [73],[]) from rfl,wordT_eq [73] (by decide)]
   exact (arg_I b w).mono fun e w' h=>argRes_of hB h
 · rw [show argP u.bits u.op [82]=(wordT [82],[]) from rfl,wordT_eq [82] (by decide)]
   exact (arg_R b w).mono fun e w' h=>argRes_of hB h
 · rw [show argP u.bits u.op [83,80]=(wordT [83,80],[]) from rfl,wordT_eq [83,80] (by decide)]
   exact (arg_word b [83,80] w (by decide +kernel) (by decide) (by decide) (by decide)).mono fun e w' h=>argRes_of hB h
 · rw [show argP u.bits u.op [98]=((6,0,((fieldV u.op 98 0 u.bits 0:Nat):Int)),[]) from rfl]
   exact (arg_b b u w hB h8 hop).mono fun e w' h=>argRes_of hB h
 · rw [show argP u.bits u.op [99]=((8,((fieldV u.op 99 0 u.bits 0:Nat):Int),0),[]) from rfl]
   exact (arg_c b u w hB h8 hop).mono fun e w' h=>argRes_of hB h
 · rw [show argP u.bits u.op [101]=((10,0,0),[101]) from rfl]
   exact arg_e b u w hB hx
 · rw [show argP u.bits u.op [107]=((8,((fieldV u.op 107 0 u.bits 0:Nat):Int),0),[]) from rfl]
   exact (arg_k b u w hB h8 hop).mono fun e w' h=>argRes_of hB h
 · rw [show argP u.bits u.op [110]=((6,0,0),[110]) from rfl]
   exact arg_n b u w hB hx
 · rw [show argP u.bits u.op [112]=((3,((fieldV u.op 112 0 u.bits 0:Nat):Int),0),[]) from rfl]
   exact (arg_p b u w hT hB h8 hop (by simpa [argC] using hC)).mono fun e w' h=>argRes_of hB h
 · rw [show argP u.bits u.op [113]=((3,(if fieldV u.op 113 0 u.bits 0=3 then 4 else ((fieldV u.op 113 0 u.bits 0:Nat):Int)),0),[]) from rfl]
   exact (arg_q b u w hT hB h8 hop (by simpa [argC] using hC)).mono fun e w' h=>argRes_of hB h
 · rw [show argP u.bits u.op [114]=(regOp (fieldV u.op 114 0 u.bits 0),[]) from rfl]
   exact (arg_r b u w hT hB h8 hop (by simpa [argC] using hC)).mono fun e w' h=>argRes_of hB h
 · rw [show argP u.bits u.op [115]=(regOp (fieldV u.op 115 0 u.bits 0),[]) from rfl]
   exact (arg_s b u w hT hB h8 hop (by simpa [argC] using hC)).mono fun e w' h=>argRes_of hB h
 · rw [show argP u.bits u.op [116]=((6,0,8 * ((fieldV u.op 116 0 u.bits 0:Nat):Int)),[]) from rfl]
   exact (arg_t b u w hB h8 hop).mono fun e w' h=>argRes_of hB h
 · rw [show argP u.bits u.op [119]=((6,0,0),[119]) from rfl]
   exact arg_w b u w hB hx
end Go.Proofs.YtkldoojonnkfgaaGreatDoor
namespace Go.Proofs.YtkldoojonnkfgaaGreatDoor
open Go.RowKit Go.Sort
def w2T (r:Rule):List UInt8:=(Lib.fields r.text).getD 2 []
def hasArgs (r:Rule):Bool:=decide (2<(Lib.fields r.text).length) && decide (w2T r≠[42])
def splitOk (r:Rule):Bool:=if hasArgs r=true then decide (Lib.countB ⟨(w2T r).toArray⟩ ⟨#[44]⟩+1=r.args.length) else decide (r.args=[])
set_option maxRecDepth 100000 in
theorem split_ok:∀ r∈allR,splitOk r=true:=by decide +kernel
theorem rule_fields (r:RA):∃ rest,Lib.fields r.1.text=r.1.bits::r.1.mn::rest∧((Lib.fields r.1.text).getD ((Lib.fields r.1.text).length - 1) [] == [42])=r.1.alias∧r.1.text.all (fun b=>decide (b.toNat<128))=true∧(hasArgs r.1=true→argsT (w2T r.1)=r.1.args∧Lib.countB ⟨(w2T r.1).toArray⟩ ⟨#[44]⟩+1=r.1.args.length)∧(hasArgs r.1=false→r.1.args=[]):=by
 have h:=rule_ok r
 have hs:=split_ok r.1 r.2
 unfold splitOk at hs
 unfold parseOk at h
 simp only [Bool.and_eq_true,decide_eq_true_eq] at h
 obtain ⟨⟨⟨⟨⟨⟨⟨⟨⟨⟨⟨h1,h2⟩,h3⟩,h4⟩,h5⟩,h6⟩,_⟩,_⟩,_⟩,_⟩,_⟩,_⟩:=h
 obtain ⟨a,b,rest,hf⟩:∃ a b rest,Lib.fields r.1.text=a::b::rest:=by
  cases hL:Lib.fields r.1.text with
  | nil=>rw [hL] at h1; simp at h1
  | cons a l=>cases l with
    | nil=>rw [hL] at h1; simp at h1
    | cons b l=>exact ⟨a,b,l,rfl⟩
 have e1:a=r.1.bits:=by rw [hf] at h2; exact h2
 have e2:b=r.1.mn:=by rw [hf] at h3; exact h3
 refine ⟨rest,by rw [hf,e1,e2],?_,h6,fun ha=>?_,fun ha=>?_⟩
 · rw [Bool.eq_iff_iff,beq_iff_eq]
   exact h4
 · rw [if_pos ha,decide_eq_true_eq] at hs
   unfold hasArgs at ha
   rw [Bool.and_eq_true,decide_eq_true_eq,decide_eq_true_eq] at ha
   unfold w2T at ha
   rw [if_pos ha,decide_eq_true_eq] at h5
   exact ⟨h5,hs⟩
 · rw [if_neg (by rw [ha]; decide),decide_eq_true_eq] at hs
   exact hs
set_option maxRecDepth 100000 in
theorem fields_few:∀ r∈allR,(Lib.fields r.text).length≤1000:=by decide +kernel
set_option maxRecDepth 100000 in
theorem fields_short:∀ r∈allR,∀ x∈Lib.fields r.text,x.length≤1000:=by decide +kernel
set_option maxHeartbeats 2000000 in
set_option maxRecDepth 100000 in
theorem parse_any0 (r:RA) (w:World) (hT:TabsA w) (ha:hasArgs r.1=false) :
 Calls Tryz.prog 319 #[.string ⟨r.1.text.toArray⟩] w fun e w'=>e=.returned (ruleV r.1.bits r.1.mn (.slice none 0 0) r.1.alias)∧Below w.heap.size w w':=by
 obtain ⟨rest,hf,hal,hasc,_,_⟩:=rule_fields r
 have hb0:Below w.heap.size w (w.alloc (.cells #[.string ⟨#[]⟩,.string ⟨#[]⟩,.slice none 0 0,.bool false] 383)):=(Below.refl _ _).alloc (Nat.le_refl _) _
 have hfa:=fields_any r.1.text _ (hT.below hb0) (by have:=(rule_parts r).2.1; omega) hasc
 obtain ⟨O,hO⟩:∃ O,Obj.cells ((Lib.fields r.1.text).map fun x=>Value.string ⟨x.toArray⟩).toArray 9=O:=⟨_,rfl⟩
 rw [hO] at hfa
 obtain ⟨N,hN⟩:∃ N,(Lib.fields r.1.text).length=N:=⟨_,rfl⟩
 have hN2:2≤N:=by rw [←hN,hf]; simp
 have hNle:N≤1000:=by rw [←hN]; exact fields_few r.1 r.2
 have hha:N≤2∨2<N∧(Lib.fields r.1.text)[2]? = some [42]:=by
  unfold hasArgs w2T at ha
  rw [hN] at ha
  by_cases h2:2<N
  · right
    refine ⟨h2,?_⟩
    have hx:(Lib.fields r.1.text)[2]? = some ((Lib.fields r.1.text)[2]'(by omega)):=List.getElem?_eq_getElem (by omega)
    rw [decide_eq_true h2,Bool.true_and,decide_eq_false_iff_not,Decidable.not_not,List.getD_eq_getElem?_getD,hx] at ha
    rw [hx,←ha]; rfl
  · left; omega
 have hcell:∀ (W:World) (j:Nat) (x:List UInt8),(Lib.fields r.1.text)[j]? = some x→(W.alloc O).cell? ⟨W.heap.size,j,none⟩=some (.string ⟨x.toArray⟩):=fun W j x hx=>by
  rw [←hO,World.cell?_alloc_at _ _ _ _ rfl]
  simp [hx]
 have hc0:=hcell (w.alloc (.cells #[.string ⟨#[]⟩,.string ⟨#[]⟩,.slice none 0 0,.bool false] 383)) 0 r.1.bits (by rw [hf]; rfl)
 have hc1:=hcell (w.alloc (.cells #[.string ⟨#[]⟩,.string ⟨#[]⟩,.slice none 0 0,.bool false] 383)) 1 r.1.mn (by rw [hf]; rfl)
 obtain ⟨y,hy⟩:∃ y,(Lib.fields r.1.text)[N - 1]? = some y:=⟨_,List.getElem?_eq_getElem (by omega)⟩
 have hcy:=hcell (w.alloc (.cells #[.string ⟨#[]⟩,.string ⟨#[]⟩,.slice none 0 0,.bool false] 383)) (N - 1) y hy
 have hyal:(y == [42])=r.1.alias:=by rw [←hal,hN,List.getD_eq_getElem?_getD,hy]; rfl
 have hc2:=fun h=>hcell (w.alloc (.cells #[.string ⟨#[]⟩,.string ⟨#[]⟩,.slice none 0 0,.bool false] 383)) 2 [42] h
 rw [World.size_alloc] at hc0 hc1 hcy hc2
 rw [hN] at hfa
 have HFA:=Hh hfa; clear hfa hO hcell
 generalize r.1.alias=al at *
 generalize r.1.bits=bs at *
 generalize r.1.mn=mn at *
 have hN0:(0:Int)<N:=by omega
 have hN1:(1:Int)<N:=by omega
 have ws:IntKind.i64.wrap ((N:Int) - 1)=(N:Int) - 1:=IntWalk.i64_in _ (by omega)
 have ws1:(0:Int)≤(N:Int) - 1:=by omega
 have ws2:((N:Int) - 1).toNat=N - 1:=by omega
 clear hf hal hT hb0 hN ha
 rcases hha with h2 | ⟨h2,hs2⟩
 · have hd:decide ((2:Int)<(N:Int))=false:=decide_eq_false (by omega)
   clear hc2
   go_enter Tryz.func319,Tryz.ntmps319
   go_wp2_with fail
   refine HFA.out.mono ?_
   rintro e w1 ⟨rfl,rfl⟩
   go_wp2_with fail
   go_region
   go_wp2_with fail
   refine bodyPost_ret (v:=ruleV bs mn (.slice none 0 0) al) (by simp [results,Tryz.results319,go_sem]) rfl ⟨rfl,bl⟩
 · have hd:decide ((2:Int)<(N:Int))=true:=decide_eq_true (by omega)
   have hN3:(2:Int)<N:=by omega
   have hc3:=hc2 hs2
   clear hc2 hs2
   go_enter Tryz.func319,Tryz.ntmps319
   go_wp2_with fail
   refine HFA.out.mono ?_
   rintro e w1 ⟨rfl,rfl⟩
   go_wp2_with fail
   go_region
   go_wp2_with fail
   refine bodyPost_ret (v:=ruleV bs mn (.slice none 0 0) al) (by simp [results,Tryz.results319,go_sem]) rfl ⟨rfl,bl⟩
set_option maxHeartbeats 2000000 in
set_option maxRecDepth 100000 in
theorem parse_any1 (r:RA) (w:World) (hT:TabsA w) (ha:hasArgs r.1=true) :
 Calls Tryz.prog 319 #[.string ⟨r.1.text.toArray⟩] w fun e w'=>∃ a c,e=.returned (ruleV r.1.bits r.1.mn (.slice a r.1.args.length c) r.1.alias)∧Row w' (.slice a r.1.args.length c) r.1.args.length (strc (r.1.args.map fun x=>⟨x.toArray⟩))∧Below w.heap.size w w':=by
 obtain ⟨rest,hf,hal,hasc,hargs,_⟩:=rule_fields r
 obtain ⟨hsp,hcnt⟩:=hargs ha
 have hb0:Below w.heap.size w (w.alloc (.cells #[.string ⟨#[]⟩,.string ⟨#[]⟩,.slice none 0 0,.bool false] 383)):=(Below.refl _ _).alloc (Nat.le_refl _) _
 have hfa:=fields_any r.1.text _ (hT.below hb0) (by have:=(rule_parts r).2.1; omega) hasc
 obtain ⟨O,hO⟩:∃ O,Obj.cells ((Lib.fields r.1.text).map fun x=>Value.string ⟨x.toArray⟩).toArray 9=O:=⟨_,rfl⟩
 rw [hO] at hfa
 obtain ⟨N,hN⟩:∃ N,(Lib.fields r.1.text).length=N:=⟨_,rfl⟩
 have hN2:2≤N:=by rw [←hN,hf]; simp
 have hNle:N≤1000:=by rw [←hN]; exact fields_few r.1 r.2
 have hha:2<N∧(Lib.fields r.1.text)[2]? = some (w2T r.1):=by
  unfold hasArgs at ha
  rw [Bool.and_eq_true,decide_eq_true_eq] at ha
  rw [hN] at ha
  refine ⟨ha.1,?_⟩
  unfold w2T
  rw [List.getD_eq_getElem?_getD,List.getElem?_eq_getElem (by omega)]; rfl
 have hne:(w2T r.1 == [42])=false:=by
  unfold hasArgs at ha
  rw [Bool.and_eq_true,decide_eq_true_eq,decide_eq_true_eq] at ha
  simpa using ha.2
 obtain ⟨h2,hs2⟩:=hha
 have hcell:∀ (W:World) (j:Nat) (x:List UInt8),(Lib.fields r.1.text)[j]? = some x→(W.alloc O).cell? ⟨W.heap.size,j,none⟩=some (.string ⟨x.toArray⟩):=fun W j x hx=>by
  rw [←hO,World.cell?_alloc_at _ _ _ _ rfl]
  simp [hx]
 have hc0:=hcell (w.alloc (.cells #[.string ⟨#[]⟩,.string ⟨#[]⟩,.slice none 0 0,.bool false] 383)) 0 r.1.bits (by rw [hf]; rfl)
 have hc1:=hcell (w.alloc (.cells #[.string ⟨#[]⟩,.string ⟨#[]⟩,.slice none 0 0,.bool false] 383)) 1 r.1.mn (by rw [hf]; rfl)
 obtain ⟨y,hy⟩:∃ y,(Lib.fields r.1.text)[N - 1]? = some y:=⟨_,List.getElem?_eq_getElem (by omega)⟩
 have hcy:=hcell (w.alloc (.cells #[.string ⟨#[]⟩,.string ⟨#[]⟩,.slice none 0 0,.bool false] 383)) (N - 1) y hy
 have hyal:(y == [42])=r.1.alias:=by rw [←hal,hN,List.getD_eq_getElem?_getD,hy]; rfl
 have hc2:=fun h=>hcell (w.alloc (.cells #[.string ⟨#[]⟩,.string ⟨#[]⟩,.slice none 0 0,.bool false] 383)) 2 (w2T r.1) h
 rw [World.size_alloc] at hc0 hc1 hcy hc2
 rw [hN] at hfa
 have hW2:(w2T r.1).length≤1000:=by
  have h3:=List.mem_of_getElem? hs2
  exact fields_short r.1 r.2 _ h3
 obtain ⟨m,hm⟩:=hT.ml
 have hspl:=fun (W:World) (hb:Below w.heap.size w W)=>Tryz.strings_Split ⟨(w2T r.1).toArray⟩ ⟨#[44]⟩ m W (by show (w2T r.1).toArray.size<_; rw [List.size_toArray]; omega) ((hb.cell (p:=⟨1,0,none⟩) (block_lt_of_cell (a:=⟨1,0,none⟩) hm)).trans hm) (by decide)
 rw [hcnt] at hspl
 have hspl2:(Lib.splitB ⟨#[44]⟩ 0 (Lib.countB ⟨(w2T r.1).toArray⟩ ⟨#[44]⟩) ⟨(w2T r.1).toArray⟩)=r.1.args.map fun x=>⟨x.toArray⟩:=by
  unfold argsT at hsp
  rw [←hsp,List.map_map,show ((fun x:List UInt8=>(⟨x.toArray⟩:ByteArray)) ∘ fun b:ByteArray=>b.data.toList)=id from funext fun b=>by cases b; simp,List.map_id]
 rw [hspl2] at hspl
 have hc3:=hc2 hs2
 clear hc2
 generalize w2T r.1=q at *
 obtain ⟨A,hA⟩:∃ A:List ByteArray,(r.1.args.map fun x=>(⟨x.toArray⟩:ByteArray))=A:=⟨_,rfl⟩
 have hAl:A.length=r.1.args.length:=by rw [←hA,List.length_map]
 rw [hA] at hspl
 rw [hA]
 have hle:r.1.args.length≤3:=by
  have h:=rule_ok r
  unfold parseOk at h
  simp only [Bool.and_eq_true,decide_eq_true_eq] at h
  exact h.2
 generalize r.1.args.length=n at *
 have HSPL:=Hh hspl; clear hspl hspl2 hA hsp hcnt
 have HFA:=Hh hfa; clear hfa hO hcell
 generalize r.1.alias=al at *
 generalize r.1.bits=bs at *
 generalize r.1.mn=mn at *
 have hN0:(0:Int)<N:=by omega
 have hN1:(1:Int)<N:=by omega
 have ws:IntKind.i64.wrap ((N:Int) - 1)=(N:Int) - 1:=IntWalk.i64_in _ (by omega)
 have ws1:(0:Int)≤(N:Int) - 1:=by omega
 have ws2:((N:Int) - 1).toNat=N - 1:=by omega
 clear hf hal hT hb0 hN ha hs2 hm
 have hd:decide ((2:Int)<(N:Int))=true:=decide_eq_true (by omega)
 have hN3:(2:Int)<N:=by omega
 go_enter Tryz.func319,Tryz.ntmps319
 go_wp2_with fail
 refine HFA.out.mono ?_
 rintro e w1 ⟨rfl,rfl⟩
 go_wp2_with fail
 go_region
 go_wp2_with fail
 refine (HSPL.out _ (bl)).mono ?_
 rintro e w1 ⟨rfl,rfl⟩
 go_wp2_with fail
 refine bodyPost_ret (v:=ruleV bs mn (.slice (some ⟨w.heap.size+1+1+1,0,none⟩) n n) al) (by simp [results,Tryz.results319,go_sem]) rfl ⟨_,_,rfl,⟨_,n,rfl,Nat.le_refl _,fun _=>⟨w.heap.size+1+1+1,0,rfl,by simp [go_sem],fun j hj=>?_⟩⟩,bl⟩
 rw [Nat.zero_add,World.cell?_drew,World.cell?_alloc_at _ _ _ _ (by simp)]
 simp [strc]
theorem parse_any (r:RA) (w:World) (hT:TabsA w) :
 Calls Tryz.prog 319 #[.string ⟨r.1.text.toArray⟩] w fun e w'=>∃ a c,e=.returned (ruleV r.1.bits r.1.mn (.slice a r.1.args.length c) r.1.alias)∧Row w' (.slice a r.1.args.length c) r.1.args.length (strc (r.1.args.map fun x=>⟨x.toArray⟩))∧Below w.heap.size w w':=by
 rcases ha:hasArgs r.1 with _ | _
 · obtain ⟨_,_,_,_,_,hn⟩:=rule_fields r
   have hn:=hn ha
   rw [hn]
   exact (parse_any0 r w hT ha).mono fun e w' ⟨he,hb⟩=>⟨none,0,he,Row.nil _,hb⟩
 · exact parse_any1 r w hT ha
end Go.Proofs.YtkldoojonnkfgaaGreatDoor
namespace Go.Proofs.YtkldoojonnkfgaaGreatDoor
open Go.RowKit Go.Sort Go.Shelf
attribute [local go_sem] Oper.semAt_some
def lookA (op:Nat) (l:List RA):Option RA:=l.find? fun r=>fitsT r.1.text op
def lookV (o:Option RA):Value:=.tuple #[.string (match o with | some r=>⟨r.1.text.toArray⟩ | none=>⟨#[]⟩),.bool o.isSome]
theorem stB_others {b:Nat} (A B:World) (k:Nat) (o:Obj) (h:StB b A B) (hk:A.heap[k]? = some o) (hc:o.isCells=false):B.heap[k]? = some o:=by
 obtain ⟨h,s,hs⟩:=h
 by_cases e:k=b
 · subst e
   unfold StrB at hs
   rw [hs] at hk; cases hk; cases hc
 · exact (h.block k (Array.getElem?_eq_some_iff.1 hk).1 e).trans hk
theorem boxed_kb {b k:Nat} {t:TypeId} {v:Value} {A B:World} (h:Boxed A k t v) (hb:Kb b A B) (hne:k≠b):Boxed B k t v:=(hb.block k h.lt hne).trans h
theorem Kb.belowN {b n:Nat} {A B:World} (h:Kb b A B) (hn:n≤b) (hA:n≤A.heap.size):Below n A B:=⟨h.os,h.tape,h.output,h.size,fun k hk=>h.block k (by omega) (by omega)⟩
theorem look_no {op:Nat} {l:List RA} (h:∀ y∈l,fitsT y.1.text op=false):lookA op l=none:=by
 unfold lookA
 rw [List.find?_eq_none]
 intro y hy
 rw [h y hy]; decide
theorem look_yes {op:Nat} {q l:List RA} {x:RA} (hp:q++[x] <+: l) (h:∀ y∈q,fitsT y.1.text op=false) (hx:fitsT x.1.text op=true):lookA op l=some x:=by
 obtain ⟨r,rfl⟩:=hp
 unfold lookA
 rw [List.append_assoc,List.find?_append,List.find?_eq_none.2 (by intro y hy; rw [h y hy]; decide)]
 simp [hx]
theorem texts_any (s:ByteArray) (w:World):Calls Tryz.prog 254 #[.string s] w fun e w'=>e=.returned (.func (.func 317) #[] #[.pointer (some ⟨w.heap.size,0,none⟩)])∧w'=w.alloc (.cells #[.string s] 9):=by
 go_enter Tryz.func254,Tryz.ntmps254
 go_wp2
 go_ret
 exact ⟨rfl,rfl⟩
set_option maxRecDepth 100000 in
set_option maxHeartbeats 2000000 in
theorem lookup_any (r0:RA) (rl:List RA) (op:Nat) (w:World) (hlen:rl.length≤1000) (hop:op<256) :
 Calls Tryz.prog 191 #[.string (joinA (r0::rl)),.int .u8 op] w fun e w'=>e=.returned (lookV (lookA op (r0::rl)))∧Below w.heap.size w w':=by
 refine (callsIn_wide (n:=3)).1 ?_
 obtain ⟨J,hJ⟩:∃ J,joinA (r0::rl)=J:=⟨_,rfl⟩
 rw [hJ]
 have HJ:=Hh hJ; clear hJ
 refine callsIn_of_wp_marks Tryz.func191 rfl trivial ?_ rfl
 simp only [Tryz.ntmps191,List.size_toArray,List.length_cons,List.length_nil,Nat.reduceAdd,Nat.reduceSub,Array.replicate_succ,Array.replicate_zero,List.push_toArray,List.append_toArray,List.nil_append,List.cons_append]
 gi_wp2_with (refine ⟨trivial,?_⟩; gi_at_call 254; refine (callsIn_wide.2 (texts_any _ _)).mono ?_; rintro e w' ⟨rfl,rfl⟩)
 obtain ⟨c,hc⟩:∃ c:World,(((w.alloc (.cells #[.int .u8 op] 5)).alloc (.cells #[.string ⟨#[]⟩] 9)).alloc (.cells #[.bool false] 4))=c:=⟨_,rfl⟩
 have hcs:c.heap.size=w.heap.size+1+1+1:=by rw [←hc]; simp
 have b0:Boxed c w.heap.size 5 (.int .u8 op):=by rw [←hc]; exact ((Boxed.new _ _ _).alloc _).alloc _
 have b1:Boxed c (w.heap.size+1) 9 (.string ⟨#[]⟩):=by rw [←hc]; have:=(Boxed.new (w.alloc (.cells #[.int .u8 op] 5)) 9 (.string ⟨#[]⟩)).alloc (.cells #[.bool false] 4); rwa [World.size_alloc] at this
 have b2:Boxed c (w.heap.size+1+1) 4 (.bool false):=by rw [←hc]; have:=Boxed.new ((w.alloc (.cells #[.int .u8 op] 5)).alloc (.cells #[.string ⟨#[]⟩] 9)) 4 (.bool false); simp only [World.size_alloc] at this; exact this
 have hB0:Below w.heap.size w c:=by rw [←hc]; exact ((((Below.refl _ w).alloc (Nat.le_refl _) _).alloc (by simp) _).alloc (by simp; omega) _)
 rw [hc]
 clear hc
 have hst:StrB (w.heap.size+1+1+1) (c.alloc (.cells #[.string J] 9)) (joinA (r0::rl)):=by rw [HJ.out,←hcs]; exact Boxed.new _ _ _
 refine wpIn_rangeFunc_steps rfl (by decide) (gf:=317) (lb:=#[.pointer (some ⟨w.heap.size+1+1+1,0,none⟩)]) rfl trivial (enters_of Tryz.func317 (by kernel_rfl) rfl)
  (texts1_go 2 (w.heap.size+1+1+1) (by decide) r0 rl hlen)
  (fun o o'=>(Boxed.alloc (Boxed.alloc hst o) o')) (fun A B k o h hk hc _=>stB_others A B k o h hk hc) keepB_t (keepB_b (by rw [World.size_alloc,hcs]; omega)) (fun _ _ _ _ _ _ _ _ _=>trivial) (fun _=>rfl)
  (fun pre W=>((∀ y∈pre,fitsT y.1.text op=false)∧Boxed W w.heap.size 5 (.int .u8 op)∧Boxed W (w.heap.size+1) 9 (.string ⟨#[]⟩)∧Boxed W (w.heap.size+1+1) 4 (.bool false))∧Below w.heap.size w W)
  (fun c pre W=>(c=.ret∧∃ q x,pre=q++[x]∧(∀ y∈q,fitsT y.1.text op=false)∧fitsT x.1.text op=true∧Boxed W (w.heap.size+1) 9 (.string ⟨x.1.text.toArray⟩)∧Boxed W (w.heap.size+1+1) 4 (.bool true))∧Below w.heap.size w W)
  ?hI ?hIs ?hIx ?hIxs ⟨⟨by simp,b0.alloc _,b1.alloc _,b2.alloc _⟩,hB0.alloc (by omega) _⟩
  (fun x=>{ tmps:=#[.string J,.int .u8 op,undef,.pointer (some ⟨w.heap.size,0,none⟩),.pointer (some ⟨w.heap.size+1,0,none⟩),.pointer (some ⟨w.heap.size+1+1,0,none⟩),.string ⟨x.1.text.toArray⟩,.string J,.func (.func 317) #[] #[.pointer (some ⟨w.heap.size+1+1+1,0,none⟩)],.string ⟨x.1.text.toArray⟩,undef,undef,undef,undef],defers:=[] }) ?assign ?body ?done ?stop
 case hI=>exact OwnFrom.and (fun s A B row hs hg hr=>⟨hs.1,(Own.from (boxed_own (β:=Unit) _ _ fun _=>_) _) () A B row hs.2.1 hg hr,(Own.from (boxed_own (β:=Unit) _ _ fun _=>_) _) () A B row hs.2.2.1 hg hr,(Own.from (boxed_own (β:=Unit) _ _ fun _=>_) _) () A B row hs.2.2.2 hg hr⟩) (ownFrom_below (Nat.le_refl _) (by rw [World.size_alloc,hcs]; omega))
 case hIs=>exact fun s A B ⟨⟨h1,h2,h3,h4⟩,h5⟩ hs=>⟨⟨h1,boxed_kb h2 hs.1 (by omega),boxed_kb h3 hs.1 (by omega),boxed_kb h4 hs.1 (by omega)⟩,h5.trans (hs.1.belowN (by omega) h5.size)⟩
 case hIx=>exact fun c=>OwnFrom.and (fun s A B row ⟨h0,q,x,h1,h2,h3,h4,h5⟩ hg hr=>⟨h0,q,x,h1,h2,h3,(Own.from (boxed_own (β:=Unit) _ _ fun _=>_) _) () A B row h4 hg hr,(Own.from (boxed_own (β:=Unit) _ _ fun _=>_) _) () A B row h5 hg hr⟩) (ownFrom_below (Nat.le_refl _) (by rw [World.size_alloc,hcs]; omega))
 case hIxs=>exact fun c s A B ⟨⟨h0,q,x,h1,h2,h3,h4,h5⟩,h6⟩ hs=>⟨⟨h0,q,x,h1,h2,h3,boxed_kb h4 hs.1 (by omega),boxed_kb h5 hs.1 (by omega)⟩,h6.trans (hs.1.belowN (by omega) h6.size)⟩
 case assign =>
  intro l x W K hK
  gi_wp2
  exact hK
 case body =>
  rintro l pre x W ⟨⟨hp,c0,c1,c2⟩,hB⟩ _ _
  have hc0:=c0.cell
  have k1:=c1.cell
  have f1:=c1.frozen
  have k2:=c2.cell
  have f2:=c2.frozen
  have hfits:=fits_any x.1.text op W (rule_parts x).1 (rule_parts x).2.1 hop
  rcases hx:fitsT x.1.text op with _ | _
  · rw [hx] at hfits
    have HF:=Hh hfits; clear hfits
    have HX:=Hh hx; clear hx
    gi_wp2_with (refine ⟨trivial,?_⟩; gi_at_call 190; refine (CallsIn.inRound l (callsIn_wide.2 HF.out)).mono ?_; rintro e w' ⟨rfl,rfl⟩)
    exact ⟨KeepsOthers.refl _,rfl,⟨fun y hy=>(List.mem_append.1 hy).elim (hp y) (fun e=>by simp at e; subst e; exact HX.out),c0,c1,c2⟩,hB⟩
  · rw [hx] at hfits
    have HF:=Hh hfits; clear hfits
    have HX:=Hh hx; clear hx
    gi_wp2_with (refine ⟨trivial,?_⟩; gi_at_call 190; refine (CallsIn.inRound l (callsIn_wide.2 HF.out)).mono ?_; rintro e w' ⟨rfl,rfl⟩)
    exact ⟨(KeepsOthers.setCell _ _ _).trans (KeepsOthers.setCell _ _ _),⟨rfl,pre,x,rfl,hp,HX.out,(c1.set _).other (by omega) _,(c2.other (by omega) _).set _⟩,(hB.setCell (p:=⟨w.heap.size+1,0,none⟩) (by simp) _).setCell (p:=⟨w.heap.size+1+1,0,none⟩) (by simp; omega) _⟩
 case done =>
  rintro D ys W hD rfl ⟨⟨hp,c0,c1,c2⟩,hB⟩ hK
  have k1:=c1.cell
  have f1:=c1.frozen
  have k2:=c2.cell
  have f2:=c2.frozen
  have HP:=Hh hp; clear hp
  gi_wp2
  have hd:D≠w.heap.size+1:=by rw [World.size_alloc,hcs] at hD; omega
  have hd2:D≠w.heap.size+1+1:=by rw [World.size_alloc,hcs] at hD; omega
  have hK':=(((KeepsOthers.setCell W ⟨w.heap.size+1,0,none⟩ (.string ⟨#[]⟩)).trans (KeepsOthers.setCell _ ⟨w.heap.size+1+1,0,none⟩ (.bool false)))).same D _ hK rfl
  refine ⟨by simp,.inl ⟨_,_,rfl,run_takeDeferred hK',?_⟩⟩
  have e1:=((c1.set (.string ⟨#[]⟩)).other (B':=w.heap.size+1+1) (by omega) (.bool false)).kept (grownBy_putObj' _ D (.deferred none)) (fun e=>hd (by cases e; rfl))
  have e2:=((c2.other (B':=w.heap.size+1) (by omega) (.string ⟨#[]⟩)).set (.bool false)).kept (grownBy_putObj' _ D (.deferred none)) (fun e=>hd2 (by cases e; rfl))
  have g1:=e1.cell
  have g2:=e2.cell
  refine ⟨lookV none,?_,by rw [look_no HP.out],((hB.setCell (p:=⟨w.heap.size+1,0,none⟩) (by simp) _).setCell (p:=⟨w.heap.size+1+1,0,none⟩) (by simp; omega) _).trans (belowK_b (w:=w) (Nat.le_refl _) _ D _ _ (by rw [World.size_alloc,hcs] at hD; omega) hK' rfl rfl)⟩
  simp [results,Tryz.f191,go_sem,g1,g2,lookV]
 case stop =>
  rintro D c pre W hD hpre ⟨⟨rfl,q,x,rfl,hq,hx,c1,c2⟩,hB⟩ hK
  have HP:=Hh (look_yes hpre hq hx); clear hpre hq hx
  gi_wp2
  have hd:D≠w.heap.size+1:=by rw [World.size_alloc,hcs] at hD; omega
  have hd2:D≠w.heap.size+1+1:=by rw [World.size_alloc,hcs] at hD; omega
  refine ⟨by simp,.inl ⟨_,_,rfl,run_takeDeferred hK,?_⟩⟩
  have g1:=(c1.kept (grownBy_putObj' _ D (.deferred none)) (fun e=>hd (by cases e; rfl))).cell
  have g2:=(c2.kept (grownBy_putObj' _ D (.deferred none)) (fun e=>hd2 (by cases e; rfl))).cell
  refine ⟨lookV (some x),?_,by rw [HP.out],hB.trans (belowK_b (w:=w) (Nat.le_refl _) W D _ _ (by rw [World.size_alloc,hcs] at hD; omega) hK rfl rfl)⟩
  simp [results,Tryz.f191,go_sem,g1,g2,lookV]
end Go.Proofs.YtkldoojonnkfgaaGreatDoor
