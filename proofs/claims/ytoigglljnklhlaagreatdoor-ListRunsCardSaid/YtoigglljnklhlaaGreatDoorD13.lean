/- Joined. -/
import Derived.Test.YtoigglljnklhlaaGreatDoorD11
import Derived.Test.YtoigglljnklhlaaGreatDoorD12
import Derived.RangeFuncBound
set_option maxHeartbeats 8000000
set_option maxRecDepth 100000
namespace Go.Proofs.YtoigglljnklhlaaGreatDoor
open Go.RowKit Go.Sort
open Go.Proofs.Tryz
theorem Dl {l:List UInt8} {c:UInt8} (h:Lib.indexByte l c<0):Lib.cut l [c]=(l,[],false):=by
 unfold Lib.cut;rw[Lib.index_one,if_neg om]
theorem zV {l:List UInt8} {c:UInt8} (h:0≤Lib.indexByte l c):Lib.cut l [c]=(l.take (Lib.indexByte l c).toNat,l.drop ((Lib.indexByte l c).toNat+1),true):=by
 unfold Lib.cut;rw[Lib.index_one,if_pos om];rfl
theorem Pe (s:ByteArray) (o:Nat):s.extract 0 o=⟨(s.data.toList.take o).toArray⟩:=by
 apply ByteArray.ext
 rw[ByteArray.data_extract];apply Array.toList_inj.1
 rw[Array.toList_extract];simp[List.extract]
theorem Pf (s:ByteArray) (o:Nat):s.extract o s.size=⟨(s.data.toList.drop o).toArray⟩:=by
 apply ByteArray.ext
 rw[ByteArray.data_extract];apply Array.toList_inj.1
 rw[Array.toList_extract];simp only[List.extract];rw[List.take_of_length_le (by rw[List.length_drop,Array.length_toList];exact Nat.le_refl _)]
theorem Jc (s:ByteArray) (c:UInt8) (w:World) (hs:s.size≤100000000) :
 Calls prog 299 #[.string s,.string ⟨#[c]⟩] w fun e w'=>e=.returned (.tuple #[.string ⟨(Lib.cut s.data.toList [c]).1.toArray⟩,.string ⟨(Lib.cut s.data.toList [c]).2.1.toArray⟩,.bool (Lib.cut s.data.toList [c]).2.2])∧∃ n,w'=w.drewN n:=by
 obtain⟨i,hi⟩:∃ i,Lib.indexByte s.data.toList c=i:=⟨_,rfl⟩;have hge:=Lib.indexByte_ge s.data.toList c;have hidx:=Tryz.stringslite_Index_one s c w;rw[hi] at hidx hge;have HIDX:=Hh hidx;clear hidx;by_cases h0:0≤i
 · have hlt:i<s.size:=by
    obtain⟨o,rfl⟩:=Int.eq_ofNat_of_zero_le h0
    have:=(Lib.indexByte_some hi).1
    have h2:=(List.getElem?_eq_some_iff.1 this).1;have h3:s.data.toList.length=s.size:=by show s.data.toList.length=s.data.size;rw[Array.length_toList]
    omega
   have hcut:=zV (l:=s.data.toList) (c:=c) (by rw[hi];exact h0);rw[hi] at hcut;rw[hcut];obtain⟨o,rfl⟩:=Int.eq_ofNat_of_zero_le h0;have HI:=Hh hi;clear hi hcut;have w1:IntKind.i64.wrap ((o:Int)+1)=(o:Int)+1:=IntWalk.i64_in _ om;go_enter func299,ntmps299
   go_wp2_with fail
   refine HIDX.out.mono ?_;rintro e w1 ⟨rfl,rfl⟩;go_wp2_with fail
   go_quiet (fail)
   go_wp2_with fail
   go_ret3;refine⟨?_,_,rfl⟩;show Ending.returned (.tuple #[.string (s.extract 0 o),.string (s.extract (o+1) s.size),.bool true])=_
   rw[Pe,Pf];rfl
 · have hcut:=Dl (l:=s.data.toList) (c:=c) (by rw[hi];omega);rw[hcut];clear hcut hi;go_enter func299,ntmps299
   go_wp2_with fail
   refine HIDX.out.mono ?_;rintro e w1 ⟨rfl,rfl⟩;go_wp2_with fail
   go_ret3;exact⟨rfl,0,rfl⟩
theorem zW (s:ByteArray) (c:UInt8) (w:World) (hs:s.size≤100000000) :
 Calls prog 289 #[.string s,.string ⟨#[c]⟩] w fun e w'=>e=.returned (.tuple #[.string ⟨(Lib.cut s.data.toList [c]).1.toArray⟩,.string ⟨(Lib.cut s.data.toList [c]).2.1.toArray⟩,.bool (Lib.cut s.data.toList [c]).2.2])∧∃ n,w'=w.drewN n:=by
 generalize hR:Lib.cut s.data.toList [c]=R;have h:=Jc s c w hs;rw[hR] at h;clear hR;have H:=Hh h;clear h;go_enter func289,ntmps289
 go_wp2_with fail
 refine H.out.mono ?_;rintro e w1 ⟨rfl,n,rfl⟩;go_wp2_with fail
 go_ret3;exact⟨rfl,n,rfl⟩
end Go.Proofs.YtoigglljnklhlaaGreatDoor
namespace Go.Proofs.YtoigglljnklhlaaGreatDoor
open Go.RowKit Go.Sort Go.Shelf
open Go.Proofs.Tryz
attribute [local go_sem] Oper.semAt_some
abbrev RA:={ r:Rule // r∈iU }
def dA (l:List RA):ByteArray:=⟨(mQ (l.map (·.1.text))).toArray⟩
def StrB (b:Nat) (W:World) (s:ByteArray):Prop:=W.heap[b]? = some (.cells #[.string s] 9 (0,0))
theorem StrB.cell {b:Nat} {W:World} {s:ByteArray} (h:StrB b W s):W.cell? ⟨b,0,none⟩=some (.string s):=by unfold StrB at h;simp[World.cell?,h]
theorem StrB.frozen {b:Nat} {W:World} {s:ByteArray} (h:StrB b W s):W.frozen? ⟨b,0,none⟩=false:=by unfold StrB at h;simp[World.frozen?,h]
theorem StrB.lt {b:Nat} {W:World} {s:ByteArray} (h:StrB b W s):b<W.heap.size:=(Array.getElem?_eq_some_iff.1 h).1
theorem StrB.set {b:Nat} {W:World} {s t:ByteArray} (h:StrB b W s):StrB b (W.setCell ⟨b,0,none⟩ (.string t)) t:=by
 unfold StrB at *;show (W.heap.modify b _)[b]? = _
 rw[Array.getElem?_eq_getElem (by rw[Array.size_modify];exact (Array.getElem?_eq_some_iff.1 h).1),Array.getElem_modify_self,(Array.getElem?_eq_some_iff.1 h).2]
 rfl
theorem StrB.below {b n:Nat} {A B:World} {s:ByteArray} (h:StrB b A s) (hb:Below n A B) (hn:b<n):StrB b B s:=(hb.block b hn).trans h
theorem Kb.drewN {b:Nat} {u w:World} (h:Kb b u w) (n:Nat):Kb b u (w.drewN n):=⟨h.os,h.tape,h.output,h.size,h.block⟩
def StB (b:Nat) (A B:World):Prop:=Kb b A B∧∃ s,StrB b A s
def Al (b:Nat) (A B:World):Prop:=B.heap[b]? = A.heap[b]?
theorem Ev {b:Nat} {A B C:World} (h:Al b A B) (k:Al b B C):Al b A C:=Eq.trans k h
theorem Ew {b:Nat} {w:World} (hb:b<w.heap.size) (W:World) (l:Nat) (o o':Obj) (hl:w.heap.size≤l) (_:W.heap[l]? = some o) (_:o.isCells=false) (_:o.isWalk=false):Al b W (W.putObj l o'):=World.putObj_heap_other om
theorem mC (r:RA):iY r.1=true:=xZ r.1 r.2
theorem cZ (r:RA):9≤r.1.text.length∧r.1.text.length≤100∧(∀ b∈r.1.text,b≠59):=by
 have h:=mC r;unfold iY at h;simp only[Bool.and_eq_true,decide_eq_true_eq,List.all_eq_true] at h;obtain⟨⟨⟨⟨⟨⟨h1,h2⟩,_⟩,h3⟩,_⟩,h4⟩,_⟩:=h;exact⟨h2,h4,h3⟩
theorem Ho (r:RA) (l:List RA):Lib.cut (dA (r::l)).data.toList [59]=(r.1.text,(dA l).data.toList,!l.isEmpty):=by
 have:=Jb (t:=r.1.text) (ts:=l.map (·.1.text)) (cZ r).2.2
 unfold dA;simp only[List.map_cons];rw[this];cases l<;>simp
theorem sQ:∀ l:List RA,(dA l).size≤l.length*101
 | []=>by show ([]:List UInt8).toArray.size≤_;simp
 | [r]=>by
   have:=(cZ r).2.1
   show (r.1.text.toArray.size)≤_
   simp;omega
 | r::s::l=>by
   have h1:=(cZ r).2.1;have h2:=sQ (s::l);have e:(dA (r::s::l)).size=r.1.text.length+1+(dA (s::l)).size:=by
    show ((r.1.text++59::mQ ((s::l).map (·.1.text))).toArray.size)=_
    rw[List.size_toArray,List.length_append,List.length_cons];show _=_+(mQ ((s::l).map (·.1.text))).toArray.size
    rw[List.size_toArray];omega
   rw[e];simp only[List.length_cons] at h2 ⊢;omega
theorem uH (n b:Nat) (hn:1≤n) (r0:RA) (rl:List RA) (hlen:rl.length≤1000) :
 vS Fence.wide n prog 292 #[.pointer (some ⟨b,0,none⟩)] (fun x:RA=>#[.string ⟨x.1.text.toArray⟩]) (Al b) (StB b) (fun W=>StrB b W (dA (r0::rl))) (fun _ _=>True) (fun xs=>xs=r0::rl) (fun pre=>pre <+: r0::rl) (rl.length+1):=by
 intro l J Jx W hR hJ hJx hY h0;refine callsIn_of_wp func292 rfl trivial ?_ rfl;simp only[ntmps292,List.size_toArray,List.length_cons,List.length_nil,Nat.reduceAdd,Nat.reduceSub,Array.replicate_succ,Array.replicate_zero,List.push_toArray,List.append_toArray,List.nil_append,List.cons_append];gi_wp2
 gi_loopg [3] (rl.length+2) (fun k more wr=>∃ (pre rest:List RA),r0::rl=pre++rest∧more=.bool (!rest.isEmpty)∧Hid (rest≠[]→StrB b wr (dA rest))∧Hid (J pre wr)∧rest.length<k)
 case atStart=>exact⟨[],r0::rl,rfl,rfl,Hh (fun _=>hR),Hh h0,by simp⟩
 case round =>
  obtain⟨pre,rest,hx,rfl,HSt,hj,hk⟩:=hrel;cases rest with
  | nil =>
    have hpre:pre=r0::rl:=by rw[hx,List.append_nil]
    have HP:=Hh hpre;clear hpre hx;gi_wp2
    go_end0
    exact⟨⟨_,rfl⟩,.inl ⟨pre,HP.out,hj.out⟩⟩
  | cons r rest =>
    have hst:=HSt.out sm;have hcl:=hst.cell;have hfl:=hst.frozen;have hlt:=hst.lt;have hcut:=zW (dA (r::rest)) 59 wr (by have:=sQ (r::rest);have h2:=congrArg List.length hx;simp only[List.length_append,List.length_cons] at h2 this;omega)
    rw[Ho] at hcut;have hstb:∀ q,StB b wr ((wr.drewN q).setCell ⟨b,0,none⟩ (.string (dA rest))):=fun q=>⟨Kb.setCell (Kb.drewN (Kb.refl b wr) q) 0 _,⟨_,hst⟩⟩;have hset:∀ q,StrB b ((wr.drewN q).setCell ⟨b,0,none⟩ (.string (dA rest))) (dA rest):=fun q=>StrB.set (W:=wr.drewN q) hst;have hplen:pre.length<rl.length+1:=by have h2:=congrArg List.length hx;simp only[List.length_append,List.length_cons] at h2;omega
    have hY2:=fun q=>hY pre r _ (hJ _ _ _ hj.out (hstb q)) trivial hplen;have HY2:=Hh hY2;clear hY2;have HCUT:=Hh hcut;clear hcut;have HSET:=Hh hset;clear hset hst hstb;have HX:=Hh hx;clear hx;gi_wp2_with (refine⟨trivial,?_⟩;gi_at_call 289;refine (callsIn_wide.2 HCUT.out).mono ?_;rintro e w' ⟨rfl,q,rfl⟩;obtain⟨fn,tmps,assign,body,hy,hR⟩:=HY2.out q)
    refine hR.mono ?_;rintro e W3 (⟨rfl,hJ3,hk3⟩|⟨rfl,hJx3⟩)
    · have h3:StrB b W3 (dA rest):=Eq.trans hk3 (HSET.out _);have H3:=Hh h3;clear h3;gi_wp2
      gi_roundg (rest.length+1)
      case measure=>simp only[List.length_cons] at hk;omega
      case rel=>exact⟨pre++[r],rest,by rw[HX.out,List.append_assoc];rfl,rfl,Hh (fun _=>H3.out),Hh hJ3,om⟩
    · gi_wp2
      refine bodyPost_ret (results_none rfl _ _ _) rfl ?_;exact⟨⟨_,rfl⟩,.inr ⟨pre++[r],⟨rest,by rw[HX.out,List.append_assoc];rfl⟩,hJx3⟩⟩
end Go.Proofs.YtoigglljnklhlaaGreatDoor
namespace Go.Proofs.YtoigglljnklhlaaGreatDoor
open Go.RowKit Go.Sort
open Go.Proofs.Tryz
def Un:List (List UInt8):=[[40,66,67,41],[40,67,41],[40,68,69,41],[40,72,76,41],[40,83,80,41],[40,110,41],[40,119,41],[48],[49],[50],[65],[65,70],[65,70,39],[68,69],[72,76],[73],[82],[83,80],[98],[99],[101],[107],[110],[112],[113],[114],[115],[116],[119]]
def Dz (bits:List UInt8) (op:Nat) (s:List UInt8):Bool :=
 match s with
 | [c]=>if c=114∨c=115 then decide (aM op c 0 bits 0<8) else if c=112∨c=113 then decide (aM op c 0 bits 0<4) else true
 | _=>true
theorem Qq:∀ r∈iU,∀ s∈r.args,s∈Un:=by decide +kernel
theorem Uo:∀ r∈iU,∀ s∈r.args,∀ op:Fin 256,Dz r.bits op.val s=true:=by decide +kernel
def Wn:List (List UInt8):=[[40,66,67,41],[40,67,41],[40,68,69,41],[40,72,76,41],[40,83,80,41],[65],[65,70],[65,70,39],[68,69],[72,76],[73],[82],[83,80]]
theorem dD:∀ s∈Wn,gT s=eJ s:=by decide +kernel
theorem aAq (r:RA):r.1.bits.length=8:=by
 have h:=mC r;unfold iY at h;simp only[Bool.and_eq_true,decide_eq_true_eq] at h;exact h.1.1.2
theorem Vj (r:RA):r.1.args.length≤3:=by
 have h:=mC r;unfold iY at h;simp only[Bool.and_eq_true,decide_eq_true_eq] at h;exact h.2
theorem Um (b:Nat) (u:Bu) (s:List UInt8) (w:World) (hT:TabsA w) (hB:BuAt w b u) (h8:u.bits.length=8) (hop:u.op<256) (hx:u.ex.length≤100) (hs:s∈Un) (hC:Dz u.bits u.op s=true) :
 Calls prog 251 #[.pointer (some ⟨b,0,none⟩),.string ⟨s.toArray⟩] w (mA b u (dS u.bits u.op s) w):=by
 unfold Un at hs;simp only[List.mem_cons,List.not_mem_nil,or_false] at hs;rcases hs with rfl|rfl|rfl|rfl|rfl|rfl|rfl|rfl|rfl|rfl|rfl|rfl|rfl|rfl|rfl|rfl|rfl|rfl|rfl|rfl|rfl|rfl|rfl|rfl|rfl|rfl|rfl|rfl|rfl
 · rw[show dS u.bits u.op [40,66,67,41]=(gT [40,66,67,41],[]) from rfl,dD [40,66,67,41] dc]
   exact (eP b [40,66,67,41] w (by decide +kernel) dc dc dc).mono fun e w' h=>bC hB h
 · rw[show dS u.bits u.op [40,67,41]=(gT [40,67,41],[]) from rfl,dD [40,67,41] dc]
   exact (eP b [40,67,41] w (by decide +kernel) dc dc dc).mono fun e w' h=>bC hB h
 · rw[show dS u.bits u.op [40,68,69,41]=(gT [40,68,69,41],[]) from rfl,dD [40,68,69,41] dc]
   exact (eP b [40,68,69,41] w (by decide +kernel) dc dc dc).mono fun e w' h=>bC hB h
 · rw[show dS u.bits u.op [40,72,76,41]=(gT [40,72,76,41],[]) from rfl,dD [40,72,76,41] dc]
   exact (eP b [40,72,76,41] w (by decide +kernel) dc dc dc).mono fun e w' h=>bC hB h
 · rw[show dS u.bits u.op [40,83,80,41]=(gT [40,83,80,41],[]) from rfl,dD [40,83,80,41] dc]
   exact (eP b [40,83,80,41] w (by decide +kernel) dc dc dc).mono fun e w' h=>bC hB h
 · rw[show dS u.bits u.op [40,110,41]=((7,0,0),[110]) from rfl]
   exact aAe b u w hB hx
 · rw[show dS u.bits u.op [40,119,41]=((7,0,0),[119]) from rfl]
   exact aAd b u w hB hx
 · rw[show dS u.bits u.op [48]=(((6:Int),(0:Int),(0:Int)),[]) from rfl]
   exact (aBl b w).mono fun e w' h=>bC hB h
 · rw[show dS u.bits u.op [49]=(((6:Int),(0:Int),(1:Int)),[]) from rfl]
   exact (aBk b w).mono fun e w' h=>bC hB h
 · rw[show dS u.bits u.op [50]=(((6:Int),(0:Int),(2:Int)),[]) from rfl]
   exact (aBj b w).mono fun e w' h=>bC hB h
 · rw[show dS u.bits u.op [65]=(gT [65],[]) from rfl,dD [65] dc]
   exact (aBi b w).mono fun e w' h=>bC hB h
 · rw[show dS u.bits u.op [65,70]=(gT [65,70],[]) from rfl,dD [65,70] dc]
   exact (eP b [65,70] w (by decide +kernel) dc dc dc).mono fun e w' h=>bC hB h
 · rw[show dS u.bits u.op [65,70,39]=(gT [65,70,39],[]) from rfl,dD [65,70,39] dc]
   exact (eP b [65,70,39] w (by decide +kernel) dc dc dc).mono fun e w' h=>bC hB h
 · rw[show dS u.bits u.op [68,69]=(gT [68,69],[]) from rfl,dD [68,69] dc]
   exact (eP b [68,69] w (by decide +kernel) dc dc dc).mono fun e w' h=>bC hB h
 · rw[show dS u.bits u.op [72,76]=(gT [72,76],[]) from rfl,dD [72,76] dc]
   exact (eP b [72,76] w (by decide +kernel) dc dc dc).mono fun e w' h=>bC hB h
 · rw[show dS u.bits u.op [73]=(gT [73],[]) from rfl,dD [73] dc]
   exact (aBh b w).mono fun e w' h=>bC hB h
 · rw[show dS u.bits u.op [82]=(gT [82],[]) from rfl,dD [82] dc]
   exact (aBg b w).mono fun e w' h=>bC hB h
 · rw[show dS u.bits u.op [83,80]=(gT [83,80],[]) from rfl,dD [83,80] dc]
   exact (eP b [83,80] w (by decide +kernel) dc dc dc).mono fun e w' h=>bC hB h
 · rw[show dS u.bits u.op [98]=((6,0,((aM u.op 98 0 u.bits 0:Nat):Int)),[]) from rfl]
   exact (aBf b u w hB h8 hop).mono fun e w' h=>bC hB h
 · rw[show dS u.bits u.op [99]=((8,((aM u.op 99 0 u.bits 0:Nat):Int),0),[]) from rfl]
   exact (aBe b u w hB h8 hop).mono fun e w' h=>bC hB h
 · rw[show dS u.bits u.op [101]=((10,0,0),[101]) from rfl]
   exact aBd b u w hB hx
 · rw[show dS u.bits u.op [107]=((8,((aM u.op 107 0 u.bits 0:Nat):Int),0),[]) from rfl]
   exact (aBc b u w hB h8 hop).mono fun e w' h=>bC hB h
 · rw[show dS u.bits u.op [110]=((6,0,0),[110]) from rfl]
   exact aBb b u w hB hx
 · rw[show dS u.bits u.op [112]=((3,((aM u.op 112 0 u.bits 0:Nat):Int),0),[]) from rfl]
   exact (aBa b u w hT hB h8 hop (by simpa[Dz] using hC)).mono fun e w' h=>bC hB h
 · rw[show dS u.bits u.op [113]=((3,(if aM u.op 113 0 u.bits 0=3 then 4 else ((aM u.op 113 0 u.bits 0:Nat):Int)),0),[]) from rfl]
   exact (aAZ b u w hT hB h8 hop (by simpa[Dz] using hC)).mono fun e w' h=>bC hB h
 · rw[show dS u.bits u.op [114]=(cV (aM u.op 114 0 u.bits 0),[]) from rfl]
   exact (aAY b u w hT hB h8 hop (by simpa[Dz] using hC)).mono fun e w' h=>bC hB h
 · rw[show dS u.bits u.op [115]=(cV (aM u.op 115 0 u.bits 0),[]) from rfl]
   exact (aAX b u w hT hB h8 hop (by simpa[Dz] using hC)).mono fun e w' h=>bC hB h
 · rw[show dS u.bits u.op [116]=((6,0,8*((aM u.op 116 0 u.bits 0:Nat):Int)),[]) from rfl]
   exact (aAW b u w hB h8 hop).mono fun e w' h=>bC hB h
 · rw[show dS u.bits u.op [119]=((6,0,0),[119]) from rfl]
   exact aAV b u w hB hx
end Go.Proofs.YtoigglljnklhlaaGreatDoor
