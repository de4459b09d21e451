/- Joined texts: FitsT, FieldT, Builder, Builder2, ArgT. -/
import Derived.Test.YtkldoojonnkfgaaGreatDoorC22
import Derived.Test.YtkldoojonnkfgaaGreatDoorC23
namespace Go.Proofs.YtkldoojonnkfgaaGreatDoor
open Go.RowKit Go.Sort
theorem bit_of:∀ k:Fin 8,∀ op:Fin 256,bits BinOp.and IntKind.u8 ((op.val:Int) / 2 ^ (7 - k.val)) 1=(((op.val >>> (7 - k.val)) % 2:Nat):Int):=by decide +kernel
theorem bit_at {k op:Nat} (hk:k<8) (ho:op<256):bits BinOp.and IntKind.u8 ((op:Int) / 2 ^ (7 - k)) 1=(((op >>> (7 - k)) % 2:Nat):Int):=bit_of ⟨k,hk⟩ ⟨op,ho⟩
theorem fitsT_no {t:List UInt8} {op k:Nat} (h9:9≤t.length) (hk:k<8) (h:bitMiss op k (t.getD k 0)=true):fitsT t op=false:=by
 unfold fitsT
 rw [Nat.min_eq_right (by omega),Bool.and_eq_false_iff]
 right
 rw [List.all_eq_false]
 exact ⟨k,List.mem_range.2 hk,by rw [h]; decide⟩
theorem fitsT_yes {t:List UInt8} {op:Nat} (h9:9≤t.length) (h:∀ k,k<8→bitMiss op k (t.getD k 0)=false):fitsT t op=true:=by
 unfold fitsT
 rw [Nat.min_eq_right (by omega),Bool.and_eq_true]
 constructor
 · cases t with
   | nil=>simp at h9
   | cons a l=>rfl
 · rw [List.all_eq_true]
   intro k hk
   rw [h k (List.mem_range.1 hk)]; rfl
theorem byte_at {s:ByteArray} {t:List UInt8} {k:Nat} (hs:s=⟨t.toArray⟩) (h:k<s.size):s[k]=t.getD k 0:=by
 subst hs
 have h2:k<t.length:=by have h3:k<t.toArray.size:=h; simpa using h3
 rw [List.getD_eq_getElem?_getD,List.getElem?_eq_getElem h2]
 rfl
theorem miss_at {s:ByteArray} {t:List UInt8} {k op:Nat} {c:UInt8} (hs:s=⟨t.toArray⟩) (h:k<s.size) (hk:k<8) (ho:op<256) (hc:c=48∨c=49) (h1:(s[k].toNat:Int)=c.toNat) (b:Bool)
 (h2:((((c - 48).toNat:Nat):Int) != bits BinOp.and IntKind.u8 ((op:Int) / 2 ^ (7 - k)) 1)=b):bitMiss op k (t.getD k 0)=b:=by
 have e:t.getD k 0=c:=by
  rw [←byte_at hs h]
  exact UInt8.toNat_inj.1 (by omega)
 rw [bit_at hk ho] at h2
 unfold bitMiss
 rw [e]
 have h3:(c == 48 || c == 49)=true:=by rcases hc with rfl | rfl<;>rfl
 rw [h3,Bool.true_and,←h2]
 rw [Bool.eq_iff_iff,decide_eq_true_eq,bne_iff_ne]
 omega
theorem miss_no {s:ByteArray} {t:List UInt8} {k op:Nat} (hs:s=⟨t.toArray⟩) (h:k<s.size) (h1:¬ (s[k].toNat:Int)=48) (h2:¬ (s[k].toNat:Int)=49):bitMiss op k (t.getD k 0)=false:=by
 rw [←byte_at hs h]
 unfold bitMiss
 have e1:(s[k] == 48)=false:=by rw [beq_eq_false_iff_ne]; intro e; rw [e] at h1; exact h1 rfl
 have e2:(s[k] == 49)=false:=by rw [beq_eq_false_iff_ne]; intro e; rw [e] at h2; exact h2 rfl
 rw [e1,e2]; rfl
theorem all_succ {p:Nat→Prop} {k:Nat} (h:∀ j,j<k→p j) (hk:p k):∀ j,j<k+1→p j:=fun j hj=>by
 rcases Nat.lt_or_eq_of_le (Nat.le_of_lt_succ hj) with h1 | h1
 · exact h j h1
 · subst h1; exact hk
set_option maxHeartbeats 1000000 in
set_option maxRecDepth 100000 in
theorem fits_any (t:List UInt8) (op:Nat) (w:World) (h9:9≤t.length) (h100:t.length≤100) (hop:op<256) :
 Calls Tryz.prog 190 #[.string ⟨t.toArray⟩,.int .u8 op] w fun e w'=>e=.returned (.bool (fitsT t op))∧w=w':=by
 obtain ⟨s,hs⟩:∃ s:ByteArray,s=⟨t.toArray⟩:=⟨_,rfl⟩
 have hsz:s.size=t.length:=by rw [hs]; show t.toArray.size=_; simp
 have hs9:9≤s.size:=by omega
 have hs100:s.size≤100:=by omega
 rw [←hs]
 have hne:s.toList.isEmpty=false:=by
  rw [hs]
  cases t with
  | nil=>simp at h9
  | cons a l=>simp [ByteArray.toList_eq]
 have HS:=Hh hs; clear hs
 have HZ:=Hh hsz; clear hsz
 go_enter Tryz.func190,Tryz.ntmps190
 go_wp2_with fail
 go_loop [10] (fun i=>∃ k:Nat,k≤8∧i=.int .i64 k∧Hid (∀ j,j<k→bitMiss op j (t.getD j 0)=false)) (fun i=>8 - (intOf i).toNat)
 case atStart=>exact ⟨0,by omega,rfl,Hh (fun j hj=>absurd hj (Nat.not_lt_zero _))⟩
 case round =>
  obtain ⟨k,hk,rfl,HK⟩:=hrel
  by_cases hlt:k<8
  · have h1:k<s.size:=by omega
    go_wp2_with fail
    · have e1:(s[k].toNat:Int)=48:=by assumption
      have e2:(0 != bits BinOp.and IntKind.u8 ((op:Int) / 2 ^ (7 - k)) 1)=true:=by assumption
      go_ret
      exact ⟨by rw [fitsT_no h9 hlt (miss_at HS.out h1 hlt hop (.inl rfl) e1 true e2)]; rfl,rfl⟩
    · have e1:(s[k].toNat:Int)=48:=by assumption
      have e2:(0 != bits BinOp.and IntKind.u8 ((op:Int) / 2 ^ (7 - k)) 1)=false:=by assumption
      go_round
      case rel=>exact ⟨k+1,by omega,by go_num,Hh (all_succ HK.out (miss_at HS.out h1 hlt hop (.inl rfl) e1 false e2))⟩
      case measure=>simp [intOf]; omega
    · have e1:(s[k].toNat:Int)=49:=by assumption
      have e2:(1 != bits BinOp.and IntKind.u8 ((op:Int) / 2 ^ (7 - k)) 1)=true:=by assumption
      go_ret
      exact ⟨by rw [fitsT_no h9 hlt (miss_at HS.out h1 hlt hop (.inr rfl) e1 true e2)]; rfl,rfl⟩
    · have e1:(s[k].toNat:Int)=49:=by assumption
      have e2:(1 != bits BinOp.and IntKind.u8 ((op:Int) / 2 ^ (7 - k)) 1)=false:=by assumption
      go_round
      case rel=>exact ⟨k+1,by omega,by go_num,Hh (all_succ HK.out (miss_at HS.out h1 hlt hop (.inr rfl) e1 false e2))⟩
      case measure=>simp [intOf]; omega
    · have e1:¬ (s[k].toNat:Int)=48:=by assumption
      have e2:¬ (s[k].toNat:Int)=49:=by assumption
      go_round
      case rel=>exact ⟨k+1,by omega,by go_num,Hh (all_succ HK.out (miss_no HS.out h1 e1 e2))⟩
      case measure=>simp [intOf]; omega
  · obtain rfl:k=8:=by omega
    go_wp2_with fail
    go_ret
    exact ⟨by rw [fitsT_yes h9 HK.out]; simp,rfl⟩
def fieldG (op:Nat) (c:UInt8) (bits:List UInt8) (k:Nat):Nat:=(List.range k).foldl (fun n i=>if bits.getD i 0=c then 2 * n+(op >>> (7 - i)) % 2 else n) 0
theorem fieldG_succ (op:Nat) (c:UInt8) (bits:List UInt8) (k:Nat):fieldG op c bits (k+1)=if bits.getD k 0=c then 2 * fieldG op c bits k+(op >>> (7 - k)) % 2 else fieldG op c bits k:=by
 unfold fieldG
 rw [List.range_succ,List.foldl_append]
 rfl
theorem fieldG_lt (op:Nat) (c:UInt8) (bits:List UInt8):∀ k,fieldG op c bits k<2 ^ k
 | 0=>by simp [fieldG]
 | k+1=>by
   have:=fieldG_lt op c bits k
   rw [fieldG_succ,Nat.pow_succ]
   split<;>omega
theorem fieldV_eq (op:Nat) (c:UInt8) (bits:List UInt8):∀ (r:List UInt8) (i n:Nat),bits.drop i=r→n=fieldG op c bits i→fieldV op c i r n=fieldG op c bits (i+r.length)
 | [],i,n,_,hn=>by rw [fieldV,hn]; rfl
 | b::r,i,n,hd,hn=>by
   have hb:bits.getD i 0=b:=by
    have:=congrArg (fun l=>l[0]?) hd
    simp only [List.getElem?_drop,Nat.add_zero,List.getElem?_cons_zero] at this
    rw [List.getD_eq_getElem?_getD,this]; rfl
   rw [fieldV,fieldV_eq op c bits r (i+1) _ (by rw [←List.drop_drop,hd]; rfl) (by rw [fieldG_succ,hb,←hn])]
   congr 1
   simp only [List.length_cons]; omega
theorem fieldV_zero (op:Nat) (c:UInt8) (bits:List UInt8):fieldV op c 0 bits 0=fieldG op c bits bits.length:=by
 rw [fieldV_eq op c bits bits 0 0 rfl rfl,Nat.zero_add]
abbrev ruleV (bits mn:List UInt8) (v:Value) (al:Bool):Value:=.agg #[.string ⟨bits.toArray⟩,.string ⟨mn.toArray⟩,v,.bool al]
set_option maxHeartbeats 1000000 in
theorem field_any (bs mn:List UInt8) (a:Option Addr) (n c:Nat) (al:Bool) (ch:UInt8) (op:Nat) (w:World) (h8:bs.length=8) (hop:op<256) :
 Calls Tryz.prog 389 #[ruleV bs mn (.slice a n c) al,.int .u8 ch.toNat,.int .u8 op] w fun e w'=>e=.returned (.int .i64 (fieldV op ch 0 bs 0))∧Below w.heap.size w w':=by
 rw [fieldV_zero,h8]
 obtain ⟨s,hs⟩:∃ s:ByteArray,s=⟨bs.toArray⟩:=⟨_,rfl⟩
 have hsz:s.size=8:=by rw [hs]; show bs.toArray.size=_; simp [h8]
 unfold ruleV
 rw [←hs]
 have HS:=Hh hs; clear hs
 have HZ:=Hh hsz
 have hz8:(8:Nat)≤s.size:=by omega
 have hz9:s.size≤8:=by omega
 clear hsz
 go_enter Tryz.func389,Tryz.ntmps389
 go_wp2_with fail
 go_loop [7,12] (fun n i=>∃ k:Nat,k≤8∧i=.int .i64 k∧n=.int .i64 (fieldG op ch bs k)) (fun _ i=>8 - (intOf i).toNat)
 case atStart=>exact ⟨0,by omega,rfl,rfl⟩
 case round =>
  obtain ⟨k,hk,rfl,rfl⟩:=hrel
  have hlt2:=fieldG_lt op ch bs k
  have hle:fieldG op ch bs k<256:=Nat.lt_of_lt_of_le hlt2 (Nat.pow_le_pow_right (by decide) hk:2 ^ k≤2 ^ 8)
  clear hlt2
  by_cases hlt:k<8
  · have h1:k<s.size:=by omega
    have hsucc:=fieldG_succ op ch bs k
    rw [←byte_at HS.out h1] at hsucc
    generalize fieldG op ch bs k=m at *
    by_cases hc:s[k]=ch
    · have hb:((s[k].toNat:Int) == (ch.toNat:Int))=true:=by rw [hc]; simp
      have hbit:=bit_at hlt hop
      rw [if_pos hc] at hsucc
      have HSUCC:=Hh hsucc; clear hsucc hc
      have hbl:0≤bits BinOp.and IntKind.u8 ((op:Int) / 2 ^ (7 - k)) 1∧bits BinOp.and IntKind.u8 ((op:Int) / 2 ^ (7 - k)) 1≤1:=by rw [hbit]; omega
      obtain ⟨hbl1,hbl2⟩:=hbl
      have HBIT:=Hh hbit; clear hbit
      go_wp2_with fail
      go_round
      case rel=>exact ⟨k+1,by omega,by go_num,by rw [HSUCC.out,HBIT.out]; push_cast; rfl⟩
      case measure=>simp [intOf]; omega
    · have hb:((s[k].toNat:Int) == (ch.toNat:Int))=false:=by rw [beq_eq_false_iff_ne]; intro e; exact hc (UInt8.toNat_inj.1 (by omega))
      rw [if_neg hc] at hsucc
      have HSUCC:=Hh hsucc; clear hsucc hc
      go_wp2_with fail
      go_round
      case rel=>exact ⟨k+1,by omega,by go_num,by rw [HSUCC.out]⟩
      case measure=>simp [intOf]; omega
  · have hk8:s.size=k:=by omega
    obtain rfl:k=8:=by omega
    go_wp2_with fail
    go_ret
    exact ⟨rfl,bl⟩
structure Bu where
 page:Nat
 op:Nat
 mn:List UInt8
 va:Value
 ex:List UInt8
 al:Bool
 bits:List UInt8
 rmn:List UInt8
 ra:Option Addr
 rn:Nat
 rc:Nat
 ral:Bool
def BuAt (w:World) (b:Nat) (u:Bu):Prop:=w.heap[b]? = some (.cells #[.int .i64 u.page,.int .u8 u.op,.string ⟨u.mn.toArray⟩,u.va,.string ⟨u.ex.toArray⟩,.bool u.al,.string ⟨u.bits.toArray⟩,.string ⟨u.rmn.toArray⟩,.slice u.ra u.rn u.rc,.bool u.ral] 387 (0,0))
theorem BuAt.lt {w:World} {b:Nat} {u:Bu} (h:BuAt w b u):b<w.heap.size:=(Array.getElem?_eq_some_iff.1 h).1
theorem BuAt.below {w w':World} {b:Nat} {u:Bu} (h:BuAt w b u) (hb:Below w.heap.size w w'):BuAt w' b u:=(hb.block b h.lt).trans h
theorem BuAt.rule {w:World} {b:Nat} {u:Bu} (h:BuAt w b u):w.cell? ⟨b,1,none⟩=some (.int .u8 u.op)∧w.cell? ⟨b,6,none⟩=some (.string ⟨u.bits.toArray⟩)∧w.cell? ⟨b,7,none⟩=some (.string ⟨u.rmn.toArray⟩)∧w.cell? ⟨b,8,none⟩=some (.slice u.ra u.rn u.rc)∧w.cell? ⟨b,9,none⟩=some (.bool u.ral):=by
 unfold BuAt at h
 refine ⟨?_,?_,?_,?_,?_⟩<;>simp [World.cell?,h]
theorem BuAt.extra {w:World} {b:Nat} {u:Bu} (h:BuAt w b u):w.cell? ⟨b,4,none⟩=some (.string ⟨u.ex.toArray⟩)∧w.frozen? ⟨b,4,none⟩=false:=by
 unfold BuAt at h
 refine ⟨?_,?_⟩<;>simp [World.cell?,World.frozen?,h]
theorem BuAt.setExtra {w:World} {b:Nat} {u:Bu} (h:BuAt w b u) (x:List UInt8):BuAt (w.setCell ⟨b,4,none⟩ (.string ⟨x.toArray⟩)) b { u with ex:=x }:=by
 unfold BuAt at *
 show (w.heap.modify b _)[b]? = _
 rw [Array.getElem?_eq_getElem (by rw [Array.size_modify]; exact (Array.getElem?_eq_some_iff.1 h).1),Array.getElem_modify_self,(Array.getElem?_eq_some_iff.1 h).2]
 rfl
set_option maxHeartbeats 1000000 in
theorem number_any (b:Nat) (u:Bu) (ch:UInt8) (w:World) (hB:BuAt w b u) (h8:u.bits.length=8) (hop:u.op<256) :
 Calls Tryz.prog 384 #[.pointer (some ⟨b,0,none⟩),.int .u8 ch.toNat] w fun e w'=>e=.returned (.int .i64 (fieldV u.op ch 0 u.bits 0))∧Below w.heap.size w w':=by
 have hlt:=hB.lt
 obtain ⟨c1,c6,c7,c8,c9⟩:=hB.rule
 have hf:=fun w=>field_any u.bits u.rmn u.ra u.rn u.rc u.ral ch u.op w h8 hop
 generalize fieldV u.op ch 0 u.bits 0=R at *
 have HF:=Hh hf; clear hf hB h8
 go_enter Tryz.func384,Tryz.ntmps384
 go_wp2_with fail
 refine wp_region_gw (by kernel_rfl) (by kernel_rfl) ?_
 repeat (go_big_quiet_step (exact gw_quiet (HF.out _)))
 refine wpQuiet_nil ?_
 rintro _ ⟨p2,rfl⟩
 go_wp2_with fail
 go_ret
 exact ⟨rfl,bl⟩
def regsT:List UInt8:=[66,32,67,32,68,32,69,32,72,32,76,32,40,72,76,41,32,65]
def pairT:List UInt8:=[66,67,32,68,69,32,72,76,32,83,80]
def stackT:List UInt8:=[66,67,32,68,69,32,72,76,32,65,70]
def nameOk (l:List UInt8) (n:Nat) (o:Op3):Bool:=match (Lib.fields l)[n]? with | some x=>wordC x && decide (wordV x=o) | none=>false
theorem regs_at:∀ n:Fin 8,nameOk regsT n.val (regOp n.val)=true:=by decide +kernel
theorem pair_at:∀ n:Fin 4,nameOk pairT n.val (3,(n.val:Int),0)=true:=by decide +kernel
theorem stack_at:∀ n:Fin 4,nameOk stackT n.val (3,(if n.val=3 then 4 else (n.val:Int)),0)=true:=by decide +kernel
theorem namedT_ok (l:List UInt8) (n:Nat) (o:Op3) (w:World) (hT:TabsA w) (hl:l.length≤1000) (ha:l.all (fun b=>decide (b.toNat<128))=true) (h:nameOk l n o=true) :
 Calls Tryz.prog 383 #[.string ⟨l.toArray⟩,.int .i64 n] w fun e w'=>e=.returned (opW o)∧Below w.heap.size w w':=by
 unfold nameOk at h
 cases hx:(Lib.fields l)[n]? with
 | none=>rw [hx] at h; cases h
 | some x =>
   rw [hx] at h
   simp only [Bool.and_eq_true,decide_eq_true_eq] at h
   rw [←h.2]
   exact namedT_any l n x w hT hl ha hx h.1
set_option maxHeartbeats 1000000 in
theorem register_any (b:Nat) (u:Bu) (ch:UInt8) (w:World) (hT:TabsA w) (hB:BuAt w b u) (h8:u.bits.length=8) (hop:u.op<256) (hn:fieldV u.op ch 0 u.bits 0<8) :
 Calls Tryz.prog 359 #[.pointer (some ⟨b,0,none⟩),.int .u8 ch.toNat] w fun e w'=>e=.returned (opW (regOp (fieldV u.op ch 0 u.bits 0)))∧Below w.heap.size w w':=by
 have hb0:Below w.heap.size w (w.alloc (.cells #[.int .i64 0,.int .i64 0,.int .i64 0] 172)):=(Below.refl _ _).alloc (Nat.le_refl _) _
 have hnum:=number_any b u ch _ (hB.below hb0) h8 hop
 have hok:=regs_at ⟨fieldV u.op ch 0 u.bits 0,hn⟩
 dsimp only at hok
 generalize fieldV u.op ch 0 u.bits 0=n at *
 have hnm:=fun w hT=>namedT_ok regsT n _ w hT (by decide) (by decide) hok
 unfold regsT at hnm
 obtain ⟨⟨r0,r1,r2⟩,hr⟩:∃ r:Op3,r=regOp n:=⟨_,rfl⟩
 rw [←hr] at hnm ⊢
 have HT:=Hh (hT.below hb0); clear hT
 have HNUM:=Hh hnum; clear hnum
 have HNM:=Hh hnm; clear hnm
 clear hr hok hB h8 hn hb0
 go_enter Tryz.func359,Tryz.ntmps359
 go_wp2_with fail
 refine HNUM.out.mono ?_
 rintro e w1 ⟨rfl,hb1⟩
 have HT1:=Hh (HT.out.below hb1)
 have hbo:=box_kept hb1
 have hbw:=below_of_alloc hb1
 have hl1:w.heap.size<w1.heap.size:=lt_of_block hbo
 have HBO:=Hh hbo; clear hbo
 have HBW:=Hh hbw; clear hbw hb1
 go_wp2_with fail
 refine (HNM.out _ HT1.out).mono ?_
 rintro e w2 ⟨rfl,hb2⟩
 obtain ⟨k0,k1,k2,f0,f1,f2⟩:=cells3 ((hb2.block _ hl1).trans HBO.out)
 have HB2:=Hh (HBW.out.trans (hb2.mono HBW.out.size)); clear hb2
 go_wp2_with fail
 refine bodyPost_ret (v:=opW (r0,r1,r2)) (by simp [results,Tryz.results359,go_sem,k0,k1,k2]) rfl ⟨rfl,?_⟩
 exact ((HB2.out.setCell (p:=⟨w.heap.size,0,none⟩) (Nat.le_refl _) _).setCell (p:=⟨w.heap.size,1,none⟩) (Nat.le_refl _) _).setCell (p:=⟨w.heap.size,2,none⟩) (Nat.le_refl _) _
set_option maxHeartbeats 1000000 in
theorem pair_any (b:Nat) (u:Bu) (ch:UInt8) (w:World) (hT:TabsA w) (hB:BuAt w b u) (h8:u.bits.length=8) (hop:u.op<256) (hn:fieldV u.op ch 0 u.bits 0<4) :
 Calls Tryz.prog 360 #[.pointer (some ⟨b,0,none⟩),.int .u8 ch.toNat] w fun e w'=>e=.returned (opW ((3,((fieldV u.op ch 0 u.bits 0:Nat):Int),0)))∧Below w.heap.size w w':=by
 have hb0:Below w.heap.size w (w.alloc (.cells #[.int .i64 0,.int .i64 0,.int .i64 0] 172)):=(Below.refl _ _).alloc (Nat.le_refl _) _
 have hnum:=number_any b u ch _ (hB.below hb0) h8 hop
 have hok:=pair_at ⟨fieldV u.op ch 0 u.bits 0,hn⟩
 dsimp only at hok
 generalize fieldV u.op ch 0 u.bits 0=n at *
 have hnm:=fun w hT=>namedT_ok pairT n _ w hT (by decide) (by decide) hok
 unfold pairT at hnm
 obtain ⟨⟨r0,r1,r2⟩,hr⟩:∃ r:Op3,r=(3,(n:Int),0):=⟨_,rfl⟩
 rw [←hr] at hnm ⊢
 have HT:=Hh (hT.below hb0); clear hT
 have HNUM:=Hh hnum; clear hnum
 have HNM:=Hh hnm; clear hnm
 clear hr hok hB h8 hn hb0
 go_enter Tryz.func360,Tryz.ntmps360
 go_wp2_with fail
 refine HNUM.out.mono ?_
 rintro e w1 ⟨rfl,hb1⟩
 have HT1:=Hh (HT.out.below hb1)
 have hbo:=box_kept hb1
 have hbw:=below_of_alloc hb1
 have hl1:w.heap.size<w1.heap.size:=lt_of_block hbo
 have HBO:=Hh hbo; clear hbo
 have HBW:=Hh hbw; clear hbw hb1
 go_wp2_with fail
 refine (HNM.out _ HT1.out).mono ?_
 rintro e w2 ⟨rfl,hb2⟩
 obtain ⟨k0,k1,k2,f0,f1,f2⟩:=cells3 ((hb2.block _ hl1).trans HBO.out)
 have HB2:=Hh (HBW.out.trans (hb2.mono HBW.out.size)); clear hb2
 go_wp2_with fail
 refine bodyPost_ret (v:=opW (r0,r1,r2)) (by simp [results,Tryz.results360,go_sem,k0,k1,k2]) rfl ⟨rfl,?_⟩
 exact ((HB2.out.setCell (p:=⟨w.heap.size,0,none⟩) (Nat.le_refl _) _).setCell (p:=⟨w.heap.size,1,none⟩) (Nat.le_refl _) _).setCell (p:=⟨w.heap.size,2,none⟩) (Nat.le_refl _) _
set_option maxHeartbeats 1000000 in
theorem stack_any (b:Nat) (u:Bu) (ch:UInt8) (w:World) (hT:TabsA w) (hB:BuAt w b u) (h8:u.bits.length=8) (hop:u.op<256) (hn:fieldV u.op ch 0 u.bits 0<4) :
 Calls Tryz.prog 361 #[.pointer (some ⟨b,0,none⟩),.int .u8 ch.toNat] w fun e w'=>e=.returned (opW ((3,(if fieldV u.op ch 0 u.bits 0=3 then 4 else ((fieldV u.op ch 0 u.bits 0:Nat):Int)),0)))∧Below w.heap.size w w':=by
 have hb0:Below w.heap.size w (w.alloc (.cells #[.int .i64 0,.int .i64 0,.int .i64 0] 172)):=(Below.refl _ _).alloc (Nat.le_refl _) _
 have hnum:=number_any b u ch _ (hB.below hb0) h8 hop
 have hok:=stack_at ⟨fieldV u.op ch 0 u.bits 0,hn⟩
 dsimp only at hok
 generalize fieldV u.op ch 0 u.bits 0=n at *
 have hnm:=fun w hT=>namedT_ok stackT n _ w hT (by decide) (by decide) hok
 unfold stackT at hnm
 obtain ⟨⟨r0,r1,r2⟩,hr⟩:∃ r:Op3,r=(3,(if n=3 then 4 else (n:Int)),0):=⟨_,rfl⟩
 rw [←hr] at hnm ⊢
 have HT:=Hh (hT.below hb0); clear hT
 have HNUM:=Hh hnum; clear hnum
 have HNM:=Hh hnm; clear hnm
 clear hr hok hB h8 hn hb0
 go_enter Tryz.func361,Tryz.ntmps361
 go_wp2_with fail
 refine HNUM.out.mono ?_
 rintro e w1 ⟨rfl,hb1⟩
 have HT1:=Hh (HT.out.below hb1)
 have hbo:=box_kept hb1
 have hbw:=below_of_alloc hb1
 have hl1:w.heap.size<w1.heap.size:=lt_of_block hbo
 have HBO:=Hh hbo; clear hbo
 have HBW:=Hh hbw; clear hbw hb1
 go_wp2_with fail
 refine (HNM.out _ HT1.out).mono ?_
 rintro e w2 ⟨rfl,hb2⟩
 obtain ⟨k0,k1,k2,f0,f1,f2⟩:=cells3 ((hb2.block _ hl1).trans HBO.out)
 have HB2:=Hh (HBW.out.trans (hb2.mono HBW.out.size)); clear hb2
 go_wp2_with fail
 refine bodyPost_ret (v:=opW (r0,r1,r2)) (by simp [results,Tryz.results361,go_sem,k0,k1,k2]) rfl ⟨rfl,?_⟩
 exact ((HB2.out.setCell (p:=⟨w.heap.size,0,none⟩) (Nat.le_refl _) _).setCell (p:=⟨w.heap.size,1,none⟩) (Nat.le_refl _) _).setCell (p:=⟨w.heap.size,2,none⟩) (Nat.le_refl _) _
theorem ba_ext2 {a b:ByteArray} (h:a.data.toList=b.data.toList):a=b:=ByteArray.ext (Array.toList_inj.1 h)
theorem conv1 (W:World) (b:Nat) (ch:UInt8) (h:W.cell? ⟨b,0,none⟩=some (.int .u8 ch.toNat)):(convert 79 9 (.slice (some ⟨b,0,none⟩) 1 1)).run Tryz.prog W=.ok (.string ⟨#[ch]⟩) W :=
 run_convert_bytes_back (P:=Tryz.prog) W 79 9 5 ⟨b,0,none⟩ 1 [ch] Tryz.underlying79 Tryz.underlying5 Tryz.underlying9 (fun j hj=>by
  simp only [List.length_cons,List.length_nil] at hj
  obtain rfl:j=0:=by omega
  rw [addr_add]
  exact h)
abbrev opW0 (w:World):World:=w.alloc (.cells #[.int .i64 0,.int .i64 0,.int .i64 0] 172)
set_option maxHeartbeats 1000000 in
theorem condition_any (b:Nat) (u:Bu) (ch:UInt8) (w:World) (hB:BuAt w b u) (h8:u.bits.length=8) (hop:u.op<256) :
 Calls Tryz.prog 362 #[.pointer (some ⟨b,0,none⟩),.int .u8 ch.toNat] w fun e w'=>e=.returned (opW (8,((fieldV u.op ch 0 u.bits 0:Nat):Int),0))∧Below w.heap.size w w':=by
 have hb0:Below w.heap.size w (w.alloc (.cells #[.int .i64 0,.int .i64 0,.int .i64 0] 172)):=(Below.refl _ _).alloc (Nat.le_refl _) _
 have hnum:=number_any b u ch _ (hB.below hb0) h8 hop
 have hle:fieldV u.op ch 0 u.bits 0<256:=by rw [fieldV_zero,h8]; exact fieldG_lt _ _ _ 8
 generalize fieldV u.op ch 0 u.bits 0=n at *
 have HNUM:=Hh hnum; clear hnum
 clear hB h8 hb0
 go_enter Tryz.func362,Tryz.ntmps362
 go_wp2_with fail
 refine HNUM.out.mono ?_
 rintro e w1 ⟨rfl,hb1⟩
 obtain ⟨k0,k1,k2,f0,f1,f2⟩:=cells3 (box_kept hb1)
 have HB2:=Hh (below_of_alloc hb1); clear hb1
 go_wp2_with fail
 refine bodyPost_ret (v:=opW (8,(n:Int),0)) (by simp [results,Tryz.results362,go_sem,k0,k1,k2]) rfl ⟨rfl,?_⟩
 exact ((HB2.out.setCell (p:=⟨w.heap.size,0,none⟩) (Nat.le_refl _) _).setCell (p:=⟨w.heap.size,1,none⟩) (Nat.le_refl _) _).setCell (p:=⟨w.heap.size,2,none⟩) (Nat.le_refl _) _
set_option maxHeartbeats 1000000 in
theorem bit_any (b:Nat) (u:Bu) (ch:UInt8) (w:World) (hB:BuAt w b u) (h8:u.bits.length=8) (hop:u.op<256) :
 Calls Tryz.prog 363 #[.pointer (some ⟨b,0,none⟩),.int .u8 ch.toNat] w fun e w'=>e=.returned (opW (6,0,((fieldV u.op ch 0 u.bits 0:Nat):Int)))∧Below w.heap.size w w':=by
 have hb0:Below w.heap.size w (w.alloc (.cells #[.int .i64 0,.int .i64 0,.int .i64 0] 172)):=(Below.refl _ _).alloc (Nat.le_refl _) _
 have hnum:=number_any b u ch _ (hB.below hb0) h8 hop
 have hle:fieldV u.op ch 0 u.bits 0<256:=by rw [fieldV_zero,h8]; exact fieldG_lt _ _ _ 8
 generalize fieldV u.op ch 0 u.bits 0=n at *
 have HNUM:=Hh hnum; clear hnum
 clear hB h8 hb0
 go_enter Tryz.func363,Tryz.ntmps363
 go_wp2_with fail
 refine HNUM.out.mono ?_
 rintro e w1 ⟨rfl,hb1⟩
 obtain ⟨k0,k1,k2,f0,f1,f2⟩:=cells3 (box_kept hb1)
 have HB2:=Hh (below_of_alloc hb1); clear hb1
 go_wp2_with fail
 refine bodyPost_ret (v:=opW (6,0,(n:Int))) (by simp [results,Tryz.results363,go_sem,k0,k1,k2]) rfl ⟨rfl,?_⟩
 exact ((HB2.out.setCell (p:=⟨w.heap.size,0,none⟩) (Nat.le_refl _) _).setCell (p:=⟨w.heap.size,1,none⟩) (Nat.le_refl _) _).setCell (p:=⟨w.heap.size,2,none⟩) (Nat.le_refl _) _
set_option maxHeartbeats 1000000 in
theorem restart_any (b:Nat) (u:Bu) (ch:UInt8) (w:World) (hB:BuAt w b u) (h8:u.bits.length=8) (hop:u.op<256) :
 Calls Tryz.prog 364 #[.pointer (some ⟨b,0,none⟩),.int .u8 ch.toNat] w fun e w'=>e=.returned (opW (6,0,8 * ((fieldV u.op ch 0 u.bits 0:Nat):Int)))∧Below w.heap.size w w':=by
 have hb0:Below w.heap.size w (w.alloc (.cells #[.int .i64 0,.int .i64 0,.int .i64 0] 172)):=(Below.refl _ _).alloc (Nat.le_refl _) _
 have hnum:=number_any b u ch _ (hB.below hb0) h8 hop
 have hle:fieldV u.op ch 0 u.bits 0<256:=by rw [fieldV_zero,h8]; exact fieldG_lt _ _ _ 8
 generalize fieldV u.op ch 0 u.bits 0=n at *
 have HNUM:=Hh hnum; clear hnum
 clear hB h8 hb0
 go_enter Tryz.func364,Tryz.ntmps364
 go_wp2_with fail
 refine HNUM.out.mono ?_
 rintro e w1 ⟨rfl,hb1⟩
 obtain ⟨k0,k1,k2,f0,f1,f2⟩:=cells3 (box_kept hb1)
 have HB2:=Hh (below_of_alloc hb1); clear hb1
 go_wp2_with fail
 refine bodyPost_ret (v:=opW (6,0,8 * (n:Int))) (by simp [results,Tryz.results364,go_sem,k0,k1,k2]) rfl ⟨rfl,?_⟩
 exact ((HB2.out.setCell (p:=⟨w.heap.size,0,none⟩) (Nat.le_refl _) _).setCell (p:=⟨w.heap.size,1,none⟩) (Nat.le_refl _) _).setCell (p:=⟨w.heap.size,2,none⟩) (Nat.le_refl _) _
set_option maxHeartbeats 1000000 in
theorem zero_any (b:Nat) (ch:UInt8) (w:World) (h1:48≤ch.toNat):Calls Tryz.prog 367 #[.pointer (some ⟨b,0,none⟩),.int .u8 ch.toNat] w fun e w'=>e=.returned (opW (6,0,(ch.toNat:Int) - 48))∧Below w.heap.size w w':=by
 have hc:=ch.toNat_lt
 generalize ch.toNat=c at *
 go_enter Tryz.func367,Tryz.ntmps367
 go_wp2_with fail
 refine bodyPost_ret (v:=opW (6,0,(c:Int) - 48)) (by simp [results,Tryz.results367,go_sem]) rfl ⟨rfl,bl⟩
set_option maxHeartbeats 1000000 in
set_option maxRecDepth 100000 in
theorem name_any (b:Nat) (ch:UInt8) (w:World) (hc:wordC [ch]=true):Calls Tryz.prog 358 #[.pointer (some ⟨b,0,none⟩),.int .u8 ch.toNat] w fun e w'=>e=.returned (opW (wordV [ch]))∧Below w.heap.size w w':=by
 have hw:=fun w=>word_any [ch] w hc
 generalize wordV [ch]=r at *
 obtain ⟨r0,r1,r2⟩:=r
 have HW:=Hh hw; clear hw
 have hcv:=conv1 ((w.alloc (.cells #[.int .i64 0,.int .i64 0,.int .i64 0] 172)).alloc (.cells #[.int .u8 ch.toNat] 5)) (w.heap.size+1) ch (by simp [go_sem])
 go_enter Tryz.func358,Tryz.ntmps358
 go_wp2_with fail
 refine (HW.out _).mono ?_
 rintro e w2 ⟨rfl,hb⟩
 have hkb:w2.heap[w.heap.size]? = some (.cells #[.int .i64 0,.int .i64 0,.int .i64 0] 172):=(hb.block _ (by simp; omega)).trans (by rw [Below.heap_alloc _ _ _ (by simp)]; show (w.heap.push _)[w.heap.size]? = _; simp)
 obtain ⟨k0,k1,k2,f0,f1,f2⟩:=cells3 hkb
 have HB2:=Hh ((show Below w.heap.size w _ from bl).trans (hb.mono (by simp; omega))); clear hb hkb
 go_wp2_with fail
 refine bodyPost_ret (v:=opW (r0,r1,r2)) (by simp [results,Tryz.results358,go_sem,k0,k1,k2]) rfl ⟨rfl,?_⟩
 exact ((HB2.out.setCell (p:=⟨w.heap.size,0,none⟩) (Nat.le_refl _) _).setCell (p:=⟨w.heap.size,1,none⟩) (Nat.le_refl _) _).setCell (p:=⟨w.heap.size,2,none⟩) (Nat.le_refl _) _
set_option maxHeartbeats 1000000 in
theorem distance_any (b:Nat) (u:Bu) (ch:UInt8) (w:World) (hB:BuAt w b u) (hx:u.ex.length≤100) :
 Calls Tryz.prog 365 #[.pointer (some ⟨b,0,none⟩),.int .u8 ch.toNat] w fun e w'=>e=.returned (opW (10,0,0))∧BuAt w' b { u with ex:=u.ex++[ch] }∧Kb b w w':=by
 have hlt:=hB.lt
 obtain ⟨c4,f4⟩:=hB.extra
 have HB:=Hh hB; clear hB
 have hcv:=conv1 (((w.alloc (.cells #[.int .i64 0,.int .i64 0,.int .i64 0] 172)).alloc (.cells #[.int .u8 ch.toNat] 5)).drew) (w.heap.size+1) ch (by simp [go_sem])
 go_enter Tryz.func365,Tryz.ntmps365
 go_wp2_with fail
 go_region
 go_wp2_with fail
 have hap:(⟨u.ex.toArray⟩:ByteArray)++⟨#[ch]⟩=⟨(u.ex++[ch]).toArray⟩:=by apply ba_ext2; simp
 refine bodyPost_ret (v:=opW (10,0,0)) (by simp [results,Tryz.results365,go_sem]) rfl ⟨rfl,?_,((((Kb.refl b w).setCell 4 _).alloc _).alloc _).drew⟩
 rw [hap]
 exact (HB.out.setExtra (u.ex++[ch])).below (bl)
set_option maxHeartbeats 1000000 in
theorem value_any (b:Nat) (u:Bu) (ch:UInt8) (w:World) (hB:BuAt w b u) (hx:u.ex.length≤100) :
 Calls Tryz.prog 366 #[.pointer (some ⟨b,0,none⟩),.int .u8 ch.toNat] w fun e w'=>e=.returned (opW (6,0,0))∧BuAt w' b { u with ex:=u.ex++[ch] }∧Kb b w w':=by
 have hlt:=hB.lt
 obtain ⟨c4,f4⟩:=hB.extra
 have HB:=Hh hB; clear hB
 have hcv:=conv1 (((w.alloc (.cells #[.int .i64 0,.int .i64 0,.int .i64 0] 172)).alloc (.cells #[.int .u8 ch.toNat] 5)).drew) (w.heap.size+1) ch (by simp [go_sem])
 go_enter Tryz.func366,Tryz.ntmps366
 go_wp2_with fail
 go_region
 go_wp2_with fail
 have hap:(⟨u.ex.toArray⟩:ByteArray)++⟨#[ch]⟩=⟨(u.ex++[ch]).toArray⟩:=by apply ba_ext2; simp
 refine bodyPost_ret (v:=opW (6,0,0)) (by simp [results,Tryz.results366,go_sem]) rfl ⟨rfl,?_,((((Kb.refl b w).setCell 4 _).alloc _).alloc _).drew⟩
 rw [hap]
 exact (HB.out.setExtra (u.ex++[ch])).below (bl)
def ArgRes (b:Nat) (u:Bu) (x:Op3 × List UInt8) (w:World) (e:Ending) (w':World):Prop:=e=.returned (opW x.1)∧BuAt w' b { u with ex:=u.ex++x.2 }∧Kb b w w'
theorem argRes_of {b:Nat} {u:Bu} {o:Op3} {w w':World} {e:Ending} (hB:BuAt w b u) (h:e=.returned (opW o)∧Below w.heap.size w w'):ArgRes b u (o,[]) w e w' :=
 ⟨h.1,by rw [show ({ u with ex:=u.ex++[] }:Bu)=u by rw [List.append_nil]]; exact hB.below h.2,Kb.of_below h.2⟩
set_option maxHeartbeats 1000000 in
theorem arg_r (b:Nat) (u:Bu) (w:World) (hT:TabsA w) (hB:BuAt w b u) (h8:u.bits.length=8) (hop:u.op<256) (hn:fieldV u.op 114 0 u.bits 0<8) :
 Calls Tryz.prog 320 #[.pointer (some ⟨b,0,none⟩),.string ⟨#[114]⟩] w fun e w'=>e=.returned (opW (regOp (fieldV u.op 114 0 u.bits 0)))∧Below w.heap.size w w':=by
 have hb0:Below w.heap.size w (opW0 w):=(Below.refl _ _).alloc (Nat.le_refl _) _
 have hm:Calls Tryz.prog 359 #[.pointer (some ⟨b,0,none⟩),.int .u8 114] (opW0 w) fun e w'=>e=.returned (opW (regOp (fieldV u.op 114 0 u.bits 0)))∧Below (opW0 w).heap.size (opW0 w) w':=register_any b u 114 _ (hT.below hb0) (hB.below hb0) h8 hop hn
 generalize (regOp (fieldV u.op 114 0 u.bits 0):Op3)=r at *
 obtain ⟨r0,r1,r2⟩:=r
 have HM:=Hh hm
 clear hm hT hB h8 hb0
 unfold opW0 at HM
 go_enter Tryz.func320,Tryz.ntmps320
 go_wp2_with fail
 refine HM.out.mono ?_
 rintro e w1 ⟨rfl,hb1⟩
 obtain ⟨k0,k1,k2,f0,f1,f2⟩:=cells3 (box_kept hb1)
 have HB2:=Hh (below_of_alloc hb1); clear hb1
 go_wp2_with fail
 refine bodyPost_ret (v:=opW (r0,r1,r2)) (by simp [results,Tryz.results320,go_sem,k0,k1,k2]) rfl ⟨rfl,?_⟩
 exact ((HB2.out.setCell (p:=⟨w.heap.size,0,none⟩) (Nat.le_refl _) _).setCell (p:=⟨w.heap.size,1,none⟩) (Nat.le_refl _) _).setCell (p:=⟨w.heap.size,2,none⟩) (Nat.le_refl _) _
set_option maxHeartbeats 1000000 in
theorem arg_s (b:Nat) (u:Bu) (w:World) (hT:TabsA w) (hB:BuAt w b u) (h8:u.bits.length=8) (hop:u.op<256) (hn:fieldV u.op 115 0 u.bits 0<8) :
 Calls Tryz.prog 320 #[.pointer (some ⟨b,0,none⟩),.string ⟨#[115]⟩] w fun e w'=>e=.returned (opW (regOp (fieldV u.op 115 0 u.bits 0)))∧Below w.heap.size w w':=by
 have hb0:Below w.heap.size w (opW0 w):=(Below.refl _ _).alloc (Nat.le_refl _) _
 have hm:Calls Tryz.prog 359 #[.pointer (some ⟨b,0,none⟩),.int .u8 115] (opW0 w) fun e w'=>e=.returned (opW (regOp (fieldV u.op 115 0 u.bits 0)))∧Below (opW0 w).heap.size (opW0 w) w':=register_any b u 115 _ (hT.below hb0) (hB.below hb0) h8 hop hn
 generalize (regOp (fieldV u.op 115 0 u.bits 0):Op3)=r at *
 obtain ⟨r0,r1,r2⟩:=r
 have HM:=Hh hm
 clear hm hT hB h8 hb0
 unfold opW0 at HM
 go_enter Tryz.func320,Tryz.ntmps320
 go_wp2_with fail
 refine HM.out.mono ?_
 rintro e w1 ⟨rfl,hb1⟩
 obtain ⟨k0,k1,k2,f0,f1,f2⟩:=cells3 (box_kept hb1)
 have HB2:=Hh (below_of_alloc hb1); clear hb1
 go_wp2_with fail
 refine bodyPost_ret (v:=opW (r0,r1,r2)) (by simp [results,Tryz.results320,go_sem,k0,k1,k2]) rfl ⟨rfl,?_⟩
 exact ((HB2.out.setCell (p:=⟨w.heap.size,0,none⟩) (Nat.le_refl _) _).setCell (p:=⟨w.heap.size,1,none⟩) (Nat.le_refl _) _).setCell (p:=⟨w.heap.size,2,none⟩) (Nat.le_refl _) _
set_option maxHeartbeats 1000000 in
theorem arg_p (b:Nat) (u:Bu) (w:World) (hT:TabsA w) (hB:BuAt w b u) (h8:u.bits.length=8) (hop:u.op<256) (hn:fieldV u.op 112 0 u.bits 0<4) :
 Calls Tryz.prog 320 #[.pointer (some ⟨b,0,none⟩),.string ⟨#[112]⟩] w fun e w'=>e=.returned (opW ((3,((fieldV u.op 112 0 u.bits 0:Nat):Int),0)))∧Below w.heap.size w w':=by
 have hb0:Below w.heap.size w (opW0 w):=(Below.refl _ _).alloc (Nat.le_refl _) _
 have hm:Calls Tryz.prog 360 #[.pointer (some ⟨b,0,none⟩),.int .u8 112] (opW0 w) fun e w'=>e=.returned (opW ((3,((fieldV u.op 112 0 u.bits 0:Nat):Int),0)))∧Below (opW0 w).heap.size (opW0 w) w':=pair_any b u 112 _ (hT.below hb0) (hB.below hb0) h8 hop hn
 generalize ((3,((fieldV u.op 112 0 u.bits 0:Nat):Int),0):Op3)=r at *
 obtain ⟨r0,r1,r2⟩:=r
 have HM:=Hh hm
 clear hm hT hB h8 hb0
 unfold opW0 at HM
 go_enter Tryz.func320,Tryz.ntmps320
 go_wp2_with fail
 refine HM.out.mono ?_
 rintro e w1 ⟨rfl,hb1⟩
 obtain ⟨k0,k1,k2,f0,f1,f2⟩:=cells3 (box_kept hb1)
 have HB2:=Hh (below_of_alloc hb1); clear hb1
 go_wp2_with fail
 refine bodyPost_ret (v:=opW (r0,r1,r2)) (by simp [results,Tryz.results320,go_sem,k0,k1,k2]) rfl ⟨rfl,?_⟩
 exact ((HB2.out.setCell (p:=⟨w.heap.size,0,none⟩) (Nat.le_refl _) _).setCell (p:=⟨w.heap.size,1,none⟩) (Nat.le_refl _) _).setCell (p:=⟨w.heap.size,2,none⟩) (Nat.le_refl _) _
set_option maxHeartbeats 1000000 in
theorem arg_q (b:Nat) (u:Bu) (w:World) (hT:TabsA w) (hB:BuAt w b u) (h8:u.bits.length=8) (hop:u.op<256) (hn:fieldV u.op 113 0 u.bits 0<4) :
 Calls Tryz.prog 320 #[.pointer (some ⟨b,0,none⟩),.string ⟨#[113]⟩] w fun e w'=>e=.returned (opW ((3,(if fieldV u.op 113 0 u.bits 0=3 then 4 else ((fieldV u.op 113 0 u.bits 0:Nat):Int)),0)))∧Below w.heap.size w w':=by
 have hb0:Below w.heap.size w (opW0 w):=(Below.refl _ _).alloc (Nat.le_refl _) _
 have hm:Calls Tryz.prog 361 #[.pointer (some ⟨b,0,none⟩),.int .u8 113] (opW0 w) fun e w'=>e=.returned (opW ((3,(if fieldV u.op 113 0 u.bits 0=3 then 4 else ((fieldV u.op 113 0 u.bits 0:Nat):Int)),0)))∧Below (opW0 w).heap.size (opW0 w) w':=stack_any b u 113 _ (hT.below hb0) (hB.below hb0) h8 hop hn
 generalize ((3,(if fieldV u.op 113 0 u.bits 0=3 then 4 else ((fieldV u.op 113 0 u.bits 0:Nat):Int)),0):Op3)=r at *
 obtain ⟨r0,r1,r2⟩:=r
 have HM:=Hh hm
 clear hm hT hB h8 hb0
 unfold opW0 at HM
 go_enter Tryz.func320,Tryz.ntmps320
 go_wp2_with fail
 refine HM.out.mono ?_
 rintro e w1 ⟨rfl,hb1⟩
 obtain ⟨k0,k1,k2,f0,f1,f2⟩:=cells3 (box_kept hb1)
 have HB2:=Hh (below_of_alloc hb1); clear hb1
 go_wp2_with fail
 refine bodyPost_ret (v:=opW (r0,r1,r2)) (by simp [results,Tryz.results320,go_sem,k0,k1,k2]) rfl ⟨rfl,?_⟩
 exact ((HB2.out.setCell (p:=⟨w.heap.size,0,none⟩) (Nat.le_refl _) _).setCell (p:=⟨w.heap.size,1,none⟩) (Nat.le_refl _) _).setCell (p:=⟨w.heap.size,2,none⟩) (Nat.le_refl _) _
set_option maxHeartbeats 1000000 in
theorem arg_c (b:Nat) (u:Bu) (w:World) (hB:BuAt w b u) (h8:u.bits.length=8) (hop:u.op<256) :
 Calls Tryz.prog 320 #[.pointer (some ⟨b,0,none⟩),.string ⟨#[99]⟩] w fun e w'=>e=.returned (opW ((8,((fieldV u.op 99 0 u.bits 0:Nat):Int),0)))∧Below w.heap.size w w':=by
 have hb0:Below w.heap.size w (opW0 w):=(Below.refl _ _).alloc (Nat.le_refl _) _
 have hm:Calls Tryz.prog 362 #[.pointer (some ⟨b,0,none⟩),.int .u8 99] (opW0 w) fun e w'=>e=.returned (opW ((8,((fieldV u.op 99 0 u.bits 0:Nat):Int),0)))∧Below (opW0 w).heap.size (opW0 w) w':=condition_any b u 99 _ (hB.below hb0) h8 hop
 generalize ((8,((fieldV u.op 99 0 u.bits 0:Nat):Int),0):Op3)=r at *
 obtain ⟨r0,r1,r2⟩:=r
 have HM:=Hh hm
 clear hm hB h8 hb0
 unfold opW0 at HM
 go_enter Tryz.func320,Tryz.ntmps320
 go_wp2_with fail
 refine HM.out.mono ?_
 rintro e w1 ⟨rfl,hb1⟩
 obtain ⟨k0,k1,k2,f0,f1,f2⟩:=cells3 (box_kept hb1)
 have HB2:=Hh (below_of_alloc hb1); clear hb1
 go_wp2_with fail
 refine bodyPost_ret (v:=opW (r0,r1,r2)) (by simp [results,Tryz.results320,go_sem,k0,k1,k2]) rfl ⟨rfl,?_⟩
 exact ((HB2.out.setCell (p:=⟨w.heap.size,0,none⟩) (Nat.le_refl _) _).setCell (p:=⟨w.heap.size,1,none⟩) (Nat.le_refl _) _).setCell (p:=⟨w.heap.size,2,none⟩) (Nat.le_refl _) _
set_option maxHeartbeats 1000000 in
theorem arg_k (b:Nat) (u:Bu) (w:World) (hB:BuAt w b u) (h8:u.bits.length=8) (hop:u.op<256) :
 Calls Tryz.prog 320 #[.pointer (some ⟨b,0,none⟩),.string ⟨#[107]⟩] w fun e w'=>e=.returned (opW ((8,((fieldV u.op 107 0 u.bits 0:Nat):Int),0)))∧Below w.heap.size w w':=by
 have hb0:Below w.heap.size w (opW0 w):=(Below.refl _ _).alloc (Nat.le_refl _) _
 have hm:Calls Tryz.prog 362 #[.pointer (some ⟨b,0,none⟩),.int .u8 107] (opW0 w) fun e w'=>e=.returned (opW ((8,((fieldV u.op 107 0 u.bits 0:Nat):Int),0)))∧Below (opW0 w).heap.size (opW0 w) w':=condition_any b u 107 _ (hB.below hb0) h8 hop
 generalize ((8,((fieldV u.op 107 0 u.bits 0:Nat):Int),0):Op3)=r at *
 obtain ⟨r0,r1,r2⟩:=r
 have HM:=Hh hm
 clear hm hB h8 hb0
 unfold opW0 at HM
 go_enter Tryz.func320,Tryz.ntmps320
 go_wp2_with fail
 refine HM.out.mono ?_
 rintro e w1 ⟨rfl,hb1⟩
 obtain ⟨k0,k1,k2,f0,f1,f2⟩:=cells3 (box_kept hb1)
 have HB2:=Hh (below_of_alloc hb1); clear hb1
 go_wp2_with fail
 refine bodyPost_ret (v:=opW (r0,r1,r2)) (by simp [results,Tryz.results320,go_sem,k0,k1,k2]) rfl ⟨rfl,?_⟩
 exact ((HB2.out.setCell (p:=⟨w.heap.size,0,none⟩) (Nat.le_refl _) _).setCell (p:=⟨w.heap.size,1,none⟩) (Nat.le_refl _) _).setCell (p:=⟨w.heap.size,2,none⟩) (Nat.le_refl _) _
set_option maxHeartbeats 1000000 in
theorem arg_b (b:Nat) (u:Bu) (w:World) (hB:BuAt w b u) (h8:u.bits.length=8) (hop:u.op<256) :
 Calls Tryz.prog 320 #[.pointer (some ⟨b,0,none⟩),.string ⟨#[98]⟩] w fun e w'=>e=.returned (opW ((6,0,((fieldV u.op 98 0 u.bits 0:Nat):Int))))∧Below w.heap.size w w':=by
 have hb0:Below w.heap.size w (opW0 w):=(Below.refl _ _).alloc (Nat.le_refl _) _
 have hm:Calls Tryz.prog 363 #[.pointer (some ⟨b,0,none⟩),.int .u8 98] (opW0 w) fun e w'=>e=.returned (opW ((6,0,((fieldV u.op 98 0 u.bits 0:Nat):Int))))∧Below (opW0 w).heap.size (opW0 w) w':=bit_any b u 98 _ (hB.below hb0) h8 hop
 generalize ((6,0,((fieldV u.op 98 0 u.bits 0:Nat):Int)):Op3)=r at *
 obtain ⟨r0,r1,r2⟩:=r
 have HM:=Hh hm
 clear hm hB h8 hb0
 unfold opW0 at HM
 go_enter Tryz.func320,Tryz.ntmps320
 go_wp2_with fail
 refine HM.out.mono ?_
 rintro e w1 ⟨rfl,hb1⟩
 obtain ⟨k0,k1,k2,f0,f1,f2⟩:=cells3 (box_kept hb1)
 have HB2:=Hh (below_of_alloc hb1); clear hb1
 go_wp2_with fail
 refine bodyPost_ret (v:=opW (r0,r1,r2)) (by simp [results,Tryz.results320,go_sem,k0,k1,k2]) rfl ⟨rfl,?_⟩
 exact ((HB2.out.setCell (p:=⟨w.heap.size,0,none⟩) (Nat.le_refl _) _).setCell (p:=⟨w.heap.size,1,none⟩) (Nat.le_refl _) _).setCell (p:=⟨w.heap.size,2,none⟩) (Nat.le_refl _) _
set_option maxHeartbeats 1000000 in
theorem arg_t (b:Nat) (u:Bu) (w:World) (hB:BuAt w b u) (h8:u.bits.length=8) (hop:u.op<256) :
 Calls Tryz.prog 320 #[.pointer (some ⟨b,0,none⟩),.string ⟨#[116]⟩] w fun e w'=>e=.returned (opW ((6,0,8 * ((fieldV u.op 116 0 u.bits 0:Nat):Int))))∧Below w.heap.size w w':=by
 have hb0:Below w.heap.size w (opW0 w):=(Below.refl _ _).alloc (Nat.le_refl _) _
 have hm:Calls Tryz.prog 364 #[.pointer (some ⟨b,0,none⟩),.int .u8 116] (opW0 w) fun e w'=>e=.returned (opW ((6,0,8 * ((fieldV u.op 116 0 u.bits 0:Nat):Int))))∧Below (opW0 w).heap.size (opW0 w) w':=restart_any b u 116 _ (hB.below hb0) h8 hop
 generalize ((6,0,8 * ((fieldV u.op 116 0 u.bits 0:Nat):Int)):Op3)=r at *
 obtain ⟨r0,r1,r2⟩:=r
 have HM:=Hh hm
 clear hm hB h8 hb0
 unfold opW0 at HM
 go_enter Tryz.func320,Tryz.ntmps320
 go_wp2_with fail
 refine HM.out.mono ?_
 rintro e w1 ⟨rfl,hb1⟩
 obtain ⟨k0,k1,k2,f0,f1,f2⟩:=cells3 (box_kept hb1)
 have HB2:=Hh (below_of_alloc hb1); clear hb1
 go_wp2_with fail
 refine bodyPost_ret (v:=opW (r0,r1,r2)) (by simp [results,Tryz.results320,go_sem,k0,k1,k2]) rfl ⟨rfl,?_⟩
 exact ((HB2.out.setCell (p:=⟨w.heap.size,0,none⟩) (Nat.le_refl _) _).setCell (p:=⟨w.heap.size,1,none⟩) (Nat.le_refl _) _).setCell (p:=⟨w.heap.size,2,none⟩) (Nat.le_refl _) _
set_option maxHeartbeats 1000000 in
theorem arg_0 (b:Nat) (w:World) :
 Calls Tryz.prog 320 #[.pointer (some ⟨b,0,none⟩),.string ⟨#[48]⟩] w fun e w'=>e=.returned (opW ((6,0,0)))∧Below w.heap.size w w':=by
 have hm:Calls Tryz.prog 367 #[.pointer (some ⟨b,0,none⟩),.int .u8 48] (opW0 w) fun e w'=>e=.returned (opW ((6,0,0)))∧Below (opW0 w).heap.size (opW0 w) w':=zero_any b 48 _ (by decide)
 generalize ((6,0,0):Op3)=r at *
 obtain ⟨r0,r1,r2⟩:=r
 have HM:=Hh hm
 clear hm
 unfold opW0 at HM
 go_enter Tryz.func320,Tryz.ntmps320
 go_wp2_with fail
 refine HM.out.mono ?_
 rintro e w1 ⟨rfl,hb1⟩
 obtain ⟨k0,k1,k2,f0,f1,f2⟩:=cells3 (box_kept hb1)
 have HB2:=Hh (below_of_alloc hb1); clear hb1
 go_wp2_with fail
 refine bodyPost_ret (v:=opW (r0,r1,r2)) (by simp [results,Tryz.results320,go_sem,k0,k1,k2]) rfl ⟨rfl,?_⟩
 exact ((HB2.out.setCell (p:=⟨w.heap.size,0,none⟩) (Nat.le_refl _) _).setCell (p:=⟨w.heap.size,1,none⟩) (Nat.le_refl _) _).setCell (p:=⟨w.heap.size,2,none⟩) (Nat.le_refl _) _
set_option maxHeartbeats 1000000 in
theorem arg_1 (b:Nat) (w:World) :
 Calls Tryz.prog 320 #[.pointer (some ⟨b,0,none⟩),.string ⟨#[49]⟩] w fun e w'=>e=.returned (opW ((6,0,1)))∧Below w.heap.size w w':=by
 have hm:Calls Tryz.prog 367 #[.pointer (some ⟨b,0,none⟩),.int .u8 49] (opW0 w) fun e w'=>e=.returned (opW ((6,0,1)))∧Below (opW0 w).heap.size (opW0 w) w':=zero_any b 49 _ (by decide)
 generalize ((6,0,1):Op3)=r at *
 obtain ⟨r0,r1,r2⟩:=r
 have HM:=Hh hm
 clear hm
 unfold opW0 at HM
 go_enter Tryz.func320,Tryz.ntmps320
 go_wp2_with fail
 refine HM.out.mono ?_
 rintro e w1 ⟨rfl,hb1⟩
 obtain ⟨k0,k1,k2,f0,f1,f2⟩:=cells3 (box_kept hb1)
 have HB2:=Hh (below_of_alloc hb1); clear hb1
 go_wp2_with fail
 refine bodyPost_ret (v:=opW (r0,r1,r2)) (by simp [results,Tryz.results320,go_sem,k0,k1,k2]) rfl ⟨rfl,?_⟩
 exact ((HB2.out.setCell (p:=⟨w.heap.size,0,none⟩) (Nat.le_refl _) _).setCell (p:=⟨w.heap.size,1,none⟩) (Nat.le_refl _) _).setCell (p:=⟨w.heap.size,2,none⟩) (Nat.le_refl _) _
set_option maxHeartbeats 1000000 in
theorem arg_2 (b:Nat) (w:World) :
 Calls Tryz.prog 320 #[.pointer (some ⟨b,0,none⟩),.string ⟨#[50]⟩] w fun e w'=>e=.returned (opW ((6,0,2)))∧Below w.heap.size w w':=by
 have hm:Calls Tryz.prog 367 #[.pointer (some ⟨b,0,none⟩),.int .u8 50] (opW0 w) fun e w'=>e=.returned (opW ((6,0,2)))∧Below (opW0 w).heap.size (opW0 w) w':=zero_any b 50 _ (by decide)
 generalize ((6,0,2):Op3)=r at *
 obtain ⟨r0,r1,r2⟩:=r
 have HM:=Hh hm
 clear hm
 unfold opW0 at HM
 go_enter Tryz.func320,Tryz.ntmps320
 go_wp2_with fail
 refine HM.out.mono ?_
 rintro e w1 ⟨rfl,hb1⟩
 obtain ⟨k0,k1,k2,f0,f1,f2⟩:=cells3 (box_kept hb1)
 have HB2:=Hh (below_of_alloc hb1); clear hb1
 go_wp2_with fail
 refine bodyPost_ret (v:=opW (r0,r1,r2)) (by simp [results,Tryz.results320,go_sem,k0,k1,k2]) rfl ⟨rfl,?_⟩
 exact ((HB2.out.setCell (p:=⟨w.heap.size,0,none⟩) (Nat.le_refl _) _).setCell (p:=⟨w.heap.size,1,none⟩) (Nat.le_refl _) _).setCell (p:=⟨w.heap.size,2,none⟩) (Nat.le_refl _) _
set_option maxHeartbeats 1000000 in
theorem arg_A (b:Nat) (w:World) :
 Calls Tryz.prog 320 #[.pointer (some ⟨b,0,none⟩),.string ⟨#[65]⟩] w fun e w'=>e=.returned (opW (wordV [65]))∧Below w.heap.size w w':=by
 have hm:Calls Tryz.prog 358 #[.pointer (some ⟨b,0,none⟩),.int .u8 65] (opW0 w) fun e w'=>e=.returned (opW (wordV [65]))∧Below (opW0 w).heap.size (opW0 w) w':=name_any b 65 _ (by decide +kernel)
 generalize (wordV [65]:Op3)=r at *
 obtain ⟨r0,r1,r2⟩:=r
 have HM:=Hh hm
 clear hm
 unfold opW0 at HM
 go_enter Tryz.func320,Tryz.ntmps320
 go_wp2_with fail
 refine HM.out.mono ?_
 rintro e w1 ⟨rfl,hb1⟩
 obtain ⟨k0,k1,k2,f0,f1,f2⟩:=cells3 (box_kept hb1)
 have HB2:=Hh (below_of_alloc hb1); clear hb1
 go_wp2_with fail
 refine bodyPost_ret (v:=opW (r0,r1,r2)) (by simp [results,Tryz.results320,go_sem,k0,k1,k2]) rfl ⟨rfl,?_⟩
 exact ((HB2.out.setCell (p:=⟨w.heap.size,0,none⟩) (Nat.le_refl _) _).setCell (p:=⟨w.heap.size,1,none⟩) (Nat.le_refl _) _).setCell (p:=⟨w.heap.size,2,none⟩) (Nat.le_refl _) _
set_option maxHeartbeats 1000000 in
theorem arg_I (b:Nat) (w:World) :
 Calls Tryz.prog 320 #[.pointer (some ⟨b,0,none⟩),.string ⟨#[73]⟩] w fun e w'=>e=.returned (opW (wordV [73]))∧Below w.heap.size w w':=by
 have hm:Calls Tryz.prog 358 #[.pointer (some ⟨b,0,none⟩),.int .u8 73] (opW0 w) fun e w'=>e=.returned (opW (wordV [73]))∧Below (opW0 w).heap.size (opW0 w) w':=name_any b 73 _ (by decide +kernel)
 generalize (wordV [73]:Op3)=r at *
 obtain ⟨r0,r1,r2⟩:=r
 have HM:=Hh hm
 clear hm
 unfold opW0 at HM
 go_enter Tryz.func320,Tryz.ntmps320
 go_wp2_with fail
 refine HM.out.mono ?_
 rintro e w1 ⟨rfl,hb1⟩
 obtain ⟨k0,k1,k2,f0,f1,f2⟩:=cells3 (box_kept hb1)
 have HB2:=Hh (below_of_alloc hb1); clear hb1
 go_wp2_with fail
 refine bodyPost_ret (v:=opW (r0,r1,r2)) (by simp [results,Tryz.results320,go_sem,k0,k1,k2]) rfl ⟨rfl,?_⟩
 exact ((HB2.out.setCell (p:=⟨w.heap.size,0,none⟩) (Nat.le_refl _) _).setCell (p:=⟨w.heap.size,1,none⟩) (Nat.le_refl _) _).setCell (p:=⟨w.heap.size,2,none⟩) (Nat.le_refl _) _
set_option maxHeartbeats 1000000 in
theorem arg_R (b:Nat) (w:World) :
 Calls Tryz.prog 320 #[.pointer (some ⟨b,0,none⟩),.string ⟨#[82]⟩] w fun e w'=>e=.returned (opW (wordV [82]))∧Below w.heap.size w w':=by
 have hm:Calls Tryz.prog 358 #[.pointer (some ⟨b,0,none⟩),.int .u8 82] (opW0 w) fun e w'=>e=.returned (opW (wordV [82]))∧Below (opW0 w).heap.size (opW0 w) w':=name_any b 82 _ (by decide +kernel)
 generalize (wordV [82]:Op3)=r at *
 obtain ⟨r0,r1,r2⟩:=r
 have HM:=Hh hm
 clear hm
 unfold opW0 at HM
 go_enter Tryz.func320,Tryz.ntmps320
 go_wp2_with fail
 refine HM.out.mono ?_
 rintro e w1 ⟨rfl,hb1⟩
 obtain ⟨k0,k1,k2,f0,f1,f2⟩:=cells3 (box_kept hb1)
 have HB2:=Hh (below_of_alloc hb1); clear hb1
 go_wp2_with fail
 refine bodyPost_ret (v:=opW (r0,r1,r2)) (by simp [results,Tryz.results320,go_sem,k0,k1,k2]) rfl ⟨rfl,?_⟩
 exact ((HB2.out.setCell (p:=⟨w.heap.size,0,none⟩) (Nat.le_refl _) _).setCell (p:=⟨w.heap.size,1,none⟩) (Nat.le_refl _) _).setCell (p:=⟨w.heap.size,2,none⟩) (Nat.le_refl _) _
theorem t83_0 {p:Prop} (h:p:=by
 have h4:Kb b w w1:=(Kb.of_below ((Below.refl _ _).alloc (Nat.le_refl _) _)).trans HK.out
 have h3:∀ (j:Nat) (v:Value) (W:World),Kb b w W→Kb b w (W.setCell ⟨w.heap.size,j,none⟩ v):=fun j v W h=>⟨h.os,h.tape,h.output,by rw [setCell_size]; exact h.size,fun k hk hne=>by rw [Below.heap_setCell _ _ _ _ (by show k≠w.heap.size; omega)]; exact h.block k hk hne⟩
 exact h3 _ _ _ (h3 _ _ _ (h3 _ _ _ h4))):p:=h
set_option maxHeartbeats 1000000 in
theorem arg_e (b:Nat) (u:Bu) (w:World) (hB:BuAt w b u) (hx:u.ex.length≤100) :
 Calls Tryz.prog 320 #[.pointer (some ⟨b,0,none⟩),.string ⟨#[101]⟩] w (ArgRes b u ((10,0,0),[101]) w):=by
 have hb0:Below w.heap.size w (opW0 w):=(Below.refl _ _).alloc (Nat.le_refl _) _
 have hlt:=hB.lt
 have hm:Calls Tryz.prog 365 #[.pointer (some ⟨b,0,none⟩),.int .u8 101] (opW0 w) fun e w'=>e=.returned (opW (10,0,0))∧BuAt w' b { u with ex:=u.ex++[101] }∧Kb b (opW0 w) w':=distance_any b u 101 _ (hB.below hb0) hx
 have HM:=Hh hm
 clear hm hB hb0
 unfold opW0 at HM
 go_enter Tryz.func320,Tryz.ntmps320
 go_wp2_with fail
 refine HM.out.mono ?_
 rintro e w1 ⟨rfl,hb1,hk⟩
 have hbk:w1.heap[w.heap.size]? = some (.cells #[.int .i64 0,.int .i64 0,.int .i64 0] 172 (0,0)):=(hk.block w.heap.size (by simp) (by omega)).trans (by show (w.heap.push _)[w.heap.size]? = _; simp)
 obtain ⟨k0,k1,k2,f0,f1,f2⟩:=cells3 hbk
 have HB1:=Hh hb1; clear hb1
 have HK:=Hh hk; clear hk hbk
 go_wp2_with fail
 refine bodyPost_ret (v:=opW (10,0,0)) (by simp [results,Tryz.results320,go_sem,k0,k1,k2]) rfl ⟨rfl,?_,?_⟩
 · have h3:∀ (j:Nat) (v:Value) (W:World),BuAt W b { u with ex:=u.ex++[101] }→BuAt (W.setCell ⟨w.heap.size,j,none⟩ v) b { u with ex:=u.ex++[101] }:=fun j v W h=>(Below.heap_setCell W ⟨w.heap.size,j,none⟩ v b (by show b≠w.heap.size; omega)).trans h
   exact h3 _ _ _ (h3 _ _ _ (h3 _ _ _ HB1.out))
 · exact t83_0
set_option maxHeartbeats 1000000 in
theorem arg_n (b:Nat) (u:Bu) (w:World) (hB:BuAt w b u) (hx:u.ex.length≤100) :
 Calls Tryz.prog 320 #[.pointer (some ⟨b,0,none⟩),.string ⟨#[110]⟩] w (ArgRes b u ((6,0,0),[110]) w):=by
 have hb0:Below w.heap.size w (opW0 w):=(Below.refl _ _).alloc (Nat.le_refl _) _
 have hlt:=hB.lt
 have hm:Calls Tryz.prog 366 #[.pointer (some ⟨b,0,none⟩),.int .u8 110] (opW0 w) fun e w'=>e=.returned (opW (6,0,0))∧BuAt w' b { u with ex:=u.ex++[110] }∧Kb b (opW0 w) w':=value_any b u 110 _ (hB.below hb0) hx
 have HM:=Hh hm
 clear hm hB hb0
 unfold opW0 at HM
 go_enter Tryz.func320,Tryz.ntmps320
 go_wp2_with fail
 refine HM.out.mono ?_
 rintro e w1 ⟨rfl,hb1,hk⟩
 have hbk:w1.heap[w.heap.size]? = some (.cells #[.int .i64 0,.int .i64 0,.int .i64 0] 172 (0,0)):=(hk.block w.heap.size (by simp) (by omega)).trans (by show (w.heap.push _)[w.heap.size]? = _; simp)
 obtain ⟨k0,k1,k2,f0,f1,f2⟩:=cells3 hbk
 have HB1:=Hh hb1; clear hb1
 have HK:=Hh hk; clear hk hbk
 go_wp2_with fail
 refine bodyPost_ret (v:=opW (6,0,0)) (by simp [results,Tryz.results320,go_sem,k0,k1,k2]) rfl ⟨rfl,?_,?_⟩
 · have h3:∀ (j:Nat) (v:Value) (W:World),BuAt W b { u with ex:=u.ex++[110] }→BuAt (W.setCell ⟨w.heap.size,j,none⟩ v) b { u with ex:=u.ex++[110] }:=fun j v W h=>(Below.heap_setCell W ⟨w.heap.size,j,none⟩ v b (by show b≠w.heap.size; omega)).trans h
   exact h3 _ _ _ (h3 _ _ _ (h3 _ _ _ HB1.out))
 · exact t83_0
set_option maxHeartbeats 1000000 in
theorem arg_w (b:Nat) (u:Bu) (w:World) (hB:BuAt w b u) (hx:u.ex.length≤100) :
 Calls Tryz.prog 320 #[.pointer (some ⟨b,0,none⟩),.string ⟨#[119]⟩] w (ArgRes b u ((6,0,0),[119]) w):=by
 have hb0:Below w.heap.size w (opW0 w):=(Below.refl _ _).alloc (Nat.le_refl _) _
 have hlt:=hB.lt
 have hm:Calls Tryz.prog 366 #[.pointer (some ⟨b,0,none⟩),.int .u8 119] (opW0 w) fun e w'=>e=.returned (opW (6,0,0))∧BuAt w' b { u with ex:=u.ex++[119] }∧Kb b (opW0 w) w':=value_any b u 119 _ (hB.below hb0) hx
 have HM:=Hh hm
 clear hm hB hb0
 unfold opW0 at HM
 go_enter Tryz.func320,Tryz.ntmps320
 go_wp2_with fail
 refine HM.out.mono ?_
 rintro e w1 ⟨rfl,hb1,hk⟩
 have hbk:w1.heap[w.heap.size]? = some (.cells #[.int .i64 0,.int .i64 0,.int .i64 0] 172 (0,0)):=(hk.block w.heap.size (by simp) (by omega)).trans (by show (w.heap.push _)[w.heap.size]? = _; simp)
 obtain ⟨k0,k1,k2,f0,f1,f2⟩:=cells3 hbk
 have HB1:=Hh hb1; clear hb1
 have HK:=Hh hk; clear hk hbk
 go_wp2_with fail
 refine bodyPost_ret (v:=opW (6,0,0)) (by simp [results,Tryz.results320,go_sem,k0,k1,k2]) rfl ⟨rfl,?_,?_⟩
 · have h3:∀ (j:Nat) (v:Value) (W:World),BuAt W b { u with ex:=u.ex++[119] }→BuAt (W.setCell ⟨w.heap.size,j,none⟩ v) b { u with ex:=u.ex++[119] }:=fun j v W h=>(Below.heap_setCell W ⟨w.heap.size,j,none⟩ v b (by show b≠w.heap.size; omega)).trans h
   exact h3 _ _ _ (h3 _ _ _ (h3 _ _ _ HB1.out))
 · exact t83_0
set_option maxHeartbeats 1000000 in
theorem arg_mn (b:Nat) (u:Bu) (w:World) (hB:BuAt w b u) (hx:u.ex.length≤100) :
 Calls Tryz.prog 320 #[.pointer (some ⟨b,0,none⟩),.string ⟨#[40,110,41]⟩] w (ArgRes b u ((7,0,0),[110]) w):=by
 have hlt:=hB.lt
 obtain ⟨c4,f4⟩:=hB.extra
 have HB:=Hh hB; clear hB
 go_enter Tryz.func320,Tryz.ntmps320
 go_wp2_with fail
 go_region
 go_wp2_with fail
 have hap:(⟨u.ex.toArray⟩:ByteArray)++⟨#[110]⟩=⟨(u.ex++[110]).toArray⟩:=by apply ba_ext2; simp
 refine bodyPost_ret (v:=opW (7,0,0)) (by simp [results,Tryz.results320,go_sem]) rfl ⟨rfl,?_,(((Kb.refl b w).setCell 4 _).alloc _).drew⟩
 rw [show (⟨#[40,110,41]⟩:ByteArray).extract 1 2=⟨#[110]⟩ from rfl,hap]
 exact (HB.out.setExtra (u.ex++[110])).below (bl)
set_option maxHeartbeats 1000000 in
theorem arg_mw (b:Nat) (u:Bu) (w:World) (hB:BuAt w b u) (hx:u.ex.length≤100) :
 Calls Tryz.prog 320 #[.pointer (some ⟨b,0,none⟩),.string ⟨#[40,119,41]⟩] w (ArgRes b u ((7,0,0),[119]) w):=by
 have hlt:=hB.lt
 obtain ⟨c4,f4⟩:=hB.extra
 have HB:=Hh hB; clear hB
 go_enter Tryz.func320,Tryz.ntmps320
 go_wp2_with fail
 go_region
 go_wp2_with fail
 have hap:(⟨u.ex.toArray⟩:ByteArray)++⟨#[119]⟩=⟨(u.ex++[119]).toArray⟩:=by apply ba_ext2; simp
 refine bodyPost_ret (v:=opW (7,0,0)) (by simp [results,Tryz.results320,go_sem]) rfl ⟨rfl,?_,(((Kb.refl b w).setCell 4 _).alloc _).drew⟩
 rw [show (⟨#[40,119,41]⟩:ByteArray).extract 1 2=⟨#[119]⟩ from rfl,hap]
 exact (HB.out.setExtra (u.ex++[119])).below (bl)
set_option maxHeartbeats 1000000 in
theorem arg_word (b:Nat) (s:List UInt8) (w:World) (hc:wordC s=true) (h1:1<s.length) (hn1:s≠[40,110,41]) (hn2:s≠[40,119,41]) :
 Calls Tryz.prog 320 #[.pointer (some ⟨b,0,none⟩),.string ⟨s.toArray⟩] w fun e w'=>e=.returned (opW (wordV s))∧Below w.heap.size w w':=by
 have hm:=word_any s (opW0 w) hc
 generalize wordV s=r at *
 obtain ⟨r0,r1,r2⟩:=r
 have hl:s.length≤100:=by unfold wordC at hc; rw [Bool.and_eq_true,decide_eq_true_eq] at hc; exact hc.1
 have hb1:(s == [40,110,41])=false:=by simpa using hn1
 have hb2:(s == [40,119,41])=false:=by simpa using hn2
 have HM:=Hh hm
 clear hm hn1 hn2 hc
 unfold opW0 at HM
 go_enter Tryz.func320,Tryz.ntmps320
 go_wp2_with fail
 refine HM.out.mono ?_
 rintro e w1 ⟨rfl,hb1⟩
 obtain ⟨k0,k1,k2,f0,f1,f2⟩:=cells3 (box_kept hb1)
 have HB2:=Hh (below_of_alloc hb1); clear hb1
 go_wp2_with fail
 refine bodyPost_ret (v:=opW (r0,r1,r2)) (by simp [results,Tryz.results320,go_sem,k0,k1,k2]) rfl ⟨rfl,?_⟩
 exact ((HB2.out.setCell (p:=⟨w.heap.size,0,none⟩) (Nat.le_refl _) _).setCell (p:=⟨w.heap.size,1,none⟩) (Nat.le_refl _) _).setCell (p:=⟨w.heap.size,2,none⟩) (Nat.le_refl _) _
end Go.Proofs.YtkldoojonnkfgaaGreatDoor
