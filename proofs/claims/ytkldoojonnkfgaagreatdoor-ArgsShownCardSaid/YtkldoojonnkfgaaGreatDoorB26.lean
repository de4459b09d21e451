/- Joined texts: Blk, BothT. -/
import Derived.Test.YtkldoojonnkfgaaGreatDoorB25
namespace Go.Proofs.YtkldoojonnkfgaaGreatDoor
open Go.RowKit Go.Sort
theorem blk_set {w:World} {b i:Nat} {C:Array Value} {T:TypeId} {v:Value} (h:w.heap[b]? = some (.cells C T (0,0))):(w.setCell ⟨b,i,none⟩ v).heap[b]? = some (.cells (C.setIfInBounds i v) T (0,0)):=by
 show (w.heap.modify b _)[b]? = _
 rw [Array.getElem?_eq_getElem (by rw [Array.size_modify]; exact (Array.getElem?_eq_some_iff.1 h).1),Array.getElem_modify_self,(Array.getElem?_eq_some_iff.1 h).2]
 rfl
theorem blk_other {w:World} {b k i:Nat} {o:Obj} {v:Value} (h:w.heap[k]? = some o) (hne:k≠b):(w.setCell ⟨b,i,none⟩ v).heap[k]? = some o:=(Below.heap_setCell w ⟨b,i,none⟩ v k hne).trans h
theorem blk_alloc {w:World} {k:Nat} {o o':Obj} (h:w.heap[k]? = some o):(w.alloc o').heap[k]? = some o:=(Below.heap_alloc w o' k (Array.getElem?_eq_some_iff.1 h).1).trans h
theorem blk_below {w w':World} {k n:Nat} {o:Obj} (h:w.heap[k]? = some o) (hb:Below n w w') (hk:k<n):w'.heap[k]? = some o:=(hb.block k hk).trans h
theorem blk_new (w:World) (o:Obj):(w.alloc o).heap[w.heap.size]? = some o:=by show (w.heap.push o)[w.heap.size]? = _; simp
theorem blk_lt {w:World} {k:Nat} {o:Obj} (h:w.heap[k]? = some o):k<w.heap.size:=(Array.getElem?_eq_some_iff.1 h).1
theorem blk_cell {w:World} {b:Nat} {C:Array Value} {T:TypeId} (h:w.heap[b]? = some (.cells C T (0,0))) (i:Nat):w.cell? ⟨b,i,none⟩=C[i]? := by simp [World.cell?,h]
theorem blk_frozen {w:World} {b:Nat} {C:Array Value} {T:TypeId} (h:w.heap[b]? = some (.cells C T (0,0))) (i:Nat):w.frozen? ⟨b,i,none⟩=false:=by simp [World.frozen?,h]
theorem owns_set {w:World} {base g i cap n size:Nat} {e:TypeId} {xs:List Value} {u:Value} (h:w.ownsRow base e size (.slice (some ⟨g,0,none⟩) n cap) n xs) (_hi:i<xs.length) :
 (w.setCell ⟨g,i,none⟩ u).ownsRow base e size (.slice (some ⟨g,0,none⟩) n cap) n (xs.set i u):=by
 obtain ⟨h1,h2⟩:=h
 refine ⟨by rw [List.length_set]; exact h1,?_⟩
 rcases h2 with ⟨h2,_⟩ | ⟨g',cap',cur,hv,hg,hh,hn,hcap,hcur,ht⟩
 · cases h2
 · cases hv
   refine .inr ⟨g,cap,cur.setIfInBounds i u,rfl,hg,blk_set hh,hn,hcap,by rw [Array.size_setIfInBounds]; exact hcur,?_⟩
   rw [Array.toList_setIfInBounds,List.take_set,ht]
theorem owns_setO {w:World} {base g i cap n:Nat} {e:TypeId} {l:List Op3} {x:Op3} (h:w.ownsRow base e 3 (.slice (some ⟨g,0,none⟩) n cap) n (opc l)) (hi:i<l.length) :
 (((w.setCell ⟨g,i * 3,none⟩ (.int .i64 x.1)).setCell ⟨g,i * 3+1,none⟩ (.int .i64 x.2.1)).setCell ⟨g,i * 3+2,none⟩ (.int .i64 x.2.2)).ownsRow base e 3 (.slice (some ⟨g,0,none⟩) n cap) n (opc (l.set i x)):=by
 rw [←opc_setAll l i x hi]
 have hlen:=opc_len l
 exact owns_set (owns_set (owns_set h (by omega)) (by rw [List.length_set]; omega)) (by rw [List.length_set,List.length_set]; omega)
def raOf (l:List Rule) (h:∀ r∈l,r∈allR):List RA:=l.pmap (fun r hr=>⟨r,hr⟩) h
theorem raOf_text (l:List Rule) (h:∀ r∈l,r∈allR):(raOf l h).map (·.1.text)=l.map (·.text):=by
 unfold raOf
 rw [List.map_pmap]
 simp
theorem cb_all:∀ r∈cbR,r∈allR:=fun r h=>by unfold allR; simp [h]
theorem main_all:∀ r∈mainR,r∈allR:=fun r h=>by unfold allR; simp [h]
theorem ed_all:∀ r∈edR,r∈allR:=fun r h=>by unfold allR; simp [h]
theorem look_raOf (op:Nat) (hop:op<256):∀ (l:List Rule) (h:∀ r∈l,r∈allR),(lookA op (raOf l h)).map (·.1)=lookR l op
 | [],_=>rfl
 | r::l,h=>by
   have ih:=look_raOf op hop l (fun x hx=>h x (List.mem_cons_of_mem _ hx))
   have hr:r∈allR:=h r List.mem_cons_self
   have hf:fitsT r.text op=r.fits op:=fitsT_eq r hr ⟨op,hop⟩
   unfold lookA lookR raOf at *
   simp only [List.pmap_cons,List.find?_cons,hf]
   cases r.fits op with
   | true=>rfl
   | false=>exact ih
theorem findT_any (page:Nat) (l:List Rule) (h:∀ r∈l,r∈allR) (J:ByteArray) (hJ:J=⟨(joinT (l.map (·.text))).toArray⟩) (hne:l≠[]) (hlen:l.length≤1000) (op:Nat) (hop:op<256) (w:World) (hT:TabsA w) :
 Calls Tryz.prog 257 #[.int .i64 page,.string J,.int .u8 op] w fun e w'=>∃ v,e=.returned (.tuple #[entV ((findP page l op).getD ent0) v,.bool (findP page l op).isSome])∧w'.ownsRow w.heap.size 172 3 v ((findP page l op).getD ent0).args.length (opc ((findP page l op).getD ent0).args)∧Below w.heap.size w w':=by
 obtain ⟨r0,rl,hc⟩:∃ r0 rl,raOf l h=r0::rl:=by
  cases hx:raOf l h with
  | nil=>exfalso; apply hne; have:=congrArg List.length hx; unfold raOf at this; simp at this; exact this
  | cons a b=>exact ⟨a,b,rfl⟩
 have hJ2:J=joinA (r0::rl):=by
  rw [hJ,←hc]
  unfold joinA
  rw [raOf_text]
 have hl2:rl.length≤1000:=by
  have:=congrArg List.length hc
  unfold raOf at this
  simp at this
  omega
 have hlk:=look_raOf op hop l h
 rw [hc] at hlk
 rw [hJ2]
 unfold findP
 rw [←hlk]
 cases hk:lookA op (r0::rl) with
 | none =>
   refine (find_none page r0 rl op w hl2 hop hk).mono ?_
   rintro e w' ⟨he,hb⟩
   exact ⟨_,he,World.ownsRow_nil _ _ _ _,hb⟩
 | some r=>exact find_some page r0 rl op r w hT hl2 hop hk
theorem op_and:∀ op:Fin 256,bits BinOp.or IntKind.u8 (bits BinOp.andNot IntKind.u8 (op.val:Int) 7) 6=((op.val / 8 * 8+6:Nat):Int)∧bits BinOp.and IntKind.u8 (op.val:Int) 7=((op.val % 8:Nat):Int):=by decide +kernel
theorem t80_0 {p:Prop} (h:p:=by
 have hb9:=HBW.out
 refine Below.alloc ?_ (by rw [setCell_size,setCell_size,setCell_size,setCell_size,setCell_size,setCell_size,setCell_size,setCell_size,setCell_size]; omega) _
 with_reducible repeat (refine Below.setCell ?_ (by first | exact Nat.le_refl _ | (show w.heap.size≤g; omega)) _)
 exact hb9):p:=h
theorem t80_1 {p:Prop} (h:p:=by
 rw [HN.out]
 exact owns_mono ((Kb.owns HSET.out (((((((Kb.refl w.heap.size _).setCell 0 _).setCell 1 _).setCell 2 _).setCell 3 _).setCell 4 _).setCell 5 _) (own_ne HSET.out (k:=w.heap.size) (by omega)).symm).alloc _) (by omega)):p:=h
set_option maxHeartbeats 4000000 in
set_option maxRecDepth 100000 in
theorem both_six (page op q s:Nat) (mn:List UInt8) (l:List Op3) (al:Bool) (w:World) (hp1:5≤page) (hp2:page≤6) (hq:bits BinOp.or IntKind.u8 (bits BinOp.andNot IntKind.u8 (op:Int) 7) 6=(q:Int)) (hs:bits BinOp.and IntKind.u8 (op:Int) 7=(s:Int)) (hs8:s<8)
 (HF:Hid (∀ W,TabsA W→Calls Tryz.prog 257 #[.int .i64 page,.string cbS,.int .u8 q] W fun e w'=>∃ v ex,e=.returned (.tuple #[.agg #[.int .i64 page,.int .u8 q,.string ⟨mn.toArray⟩,v,.string ex,.bool al],.bool true])∧w'.ownsRow W.heap.size 172 3 v l.length (opc l)∧Below W.heap.size W w'))
 (HT:Hid (TabsA w)) (h1:1≤l.length) (h2:l.length≤3) (hs6:((s:Int) == 6)=true) :
 Calls Tryz.prog 259 #[.int .i64 page,.int .u8 op] w fun e w'=>∃ v,e=.returned (.agg #[.int .i64 page,.int .u8 op,.string ⟨mn.toArray⟩,v,.string ⟨#[100]⟩,.bool al])∧w'.ownsRow w.heap.size 172 3 v l.length (opc (l.set (l.length - 1) (5,page,0)))∧Below w.heap.size w w':=by
 obtain ⟨i0,hi,hz0,hz1,hz2⟩:=info_parts Tryz.infoOperand
 go_enter Tryz.func259,Tryz.ntmps259
 go_wp2_with fail
 refine (HF.out _ (HT.out.below (bl))).mono ?_
 rintro e w1 ⟨v,ex,rfl,hown,hb⟩
 have h0:=box_kept hb
 have hbw:=below_of_alloc hb
 have hl0:=blk_lt h0
 have hown1:=owns_mono hown (b':=w.heap.size+1) (by simp)
 rcases hown1.2 with ⟨_,hz⟩ | ⟨g,c1,cur,rfl,hg0,hg1,_⟩
 · omega
 replace hg1:=blk_lt hg1
 obtain ⟨a1',c1',ha1,_,hcells⟩:=(WRow.of_owns hown1).op
 cases ha1
 obtain ⟨g',o,ho,_,_,hcells⟩:=hcells (by intro e; rw [e] at h1; simp at h1)
 cases ho
 obtain ⟨x,hx⟩:∃ x,l[l.length - 1]? = some x:=⟨_,List.getElem?_eq_getElem (by omega)⟩
 obtain ⟨d0,d1,d2,q0,q1,q2⟩:=hcells _ x hx
 simp only [Nat.zero_add] at d0 d1 d2 q0 q1 q2
 obtain ⟨⟨r0,r1,r2,r3,r4,r5⟩,e0,e1,e2,e3,e4,e5⟩:=cells6 h0
 have hset:=owns_setO (x:=(5,(page:Int),0)) hown1 (i:=l.length - 1) (by omega)
 have HSET:=Hh hset
 have HBW:=Hh hbw
 have H0:=Hh h0
 clear hown hown1 hb h0 hbw hx hcells hset
 have ws:IntKind.i64.wrap ((l.length:Int) - 1)=(l.length:Int) - 1:=IntWalk.i64_in _ (by omega)
 have ws1:(0:Int)≤(l.length:Int) - 1:=by omega
 have ws2:((l.length:Int) - 1).toNat=l.length - 1:=by omega
 have ws3:(l.length:Int) - 1<(l.length:Int):=by omega
 generalize hn:l.length=n at *
 have HN:=Hh hn; clear hn
 go_wp2_with fail
 refine bodyPost_ret (v:=.agg #[.int .i64 page,.int .u8 op,.string ⟨mn.toArray⟩,.slice (some ⟨g,0,none⟩) n c1,.string ⟨#[100]⟩,.bool al]) (by simp [results,Tryz.results259,go_sem,r0,r1,r2,r3,r4,r5,hl0]) rfl ⟨_,rfl,?_,?_⟩
 · exact t80_1
 · exact t80_0
set_option maxHeartbeats 4000000 in
set_option maxRecDepth 100000 in
theorem both_bit (page op q s:Nat) (mn:List UInt8) (l:List Op3) (al:Bool) (w:World) (hp1:5≤page) (hp2:page≤6) (hq:bits BinOp.or IntKind.u8 (bits BinOp.andNot IntKind.u8 (op:Int) 7) 6=(q:Int)) (hs:bits BinOp.and IntKind.u8 (op:Int) 7=(s:Int)) (hs8:s<8)
 (HF:Hid (∀ W,TabsA W→Calls Tryz.prog 257 #[.int .i64 page,.string cbS,.int .u8 q] W fun e w'=>∃ v ex,e=.returned (.tuple #[.agg #[.int .i64 page,.int .u8 q,.string ⟨mn.toArray⟩,v,.string ex,.bool al],.bool true])∧w'.ownsRow W.heap.size 172 3 v l.length (opc l)∧Below W.heap.size W w'))
 (HT:Hid (TabsA w)) (h1:1≤l.length) (h2:l.length≤3) (hs6:((s:Int) == 6)=false) (hbit:(mn == [66,73,84])=true) :
 Calls Tryz.prog 259 #[.int .i64 page,.int .u8 op] w fun e w'=>∃ v,e=.returned (.agg #[.int .i64 page,.int .u8 op,.string ⟨mn.toArray⟩,v,.string ⟨#[100]⟩,.bool true])∧w'.ownsRow w.heap.size 172 3 v l.length (opc (l.set (l.length - 1) (5,page,0)))∧Below w.heap.size w w':=by
 obtain ⟨i0,hi,hz0,hz1,hz2⟩:=info_parts Tryz.infoOperand
 go_enter Tryz.func259,Tryz.ntmps259
 go_wp2_with fail
 refine (HF.out _ (HT.out.below (bl))).mono ?_
 rintro e w1 ⟨v,ex,rfl,hown,hb⟩
 have h0:=box_kept hb
 have hbw:=below_of_alloc hb
 have hl0:=blk_lt h0
 have hown1:=owns_mono hown (b':=w.heap.size+1) (by simp)
 rcases hown1.2 with ⟨_,hz⟩ | ⟨g,c1,cur,rfl,hg0,hg1,_⟩
 · omega
 replace hg1:=blk_lt hg1
 obtain ⟨a1',c1',ha1,_,hcells⟩:=(WRow.of_owns hown1).op
 cases ha1
 obtain ⟨g',o,ho,_,_,hcells⟩:=hcells (by intro e; rw [e] at h1; simp at h1)
 cases ho
 obtain ⟨x,hx⟩:∃ x,l[l.length - 1]? = some x:=⟨_,List.getElem?_eq_getElem (by omega)⟩
 obtain ⟨d0,d1,d2,q0,q1,q2⟩:=hcells _ x hx
 simp only [Nat.zero_add] at d0 d1 d2 q0 q1 q2
 obtain ⟨⟨r0,r1,r2,r3,r4,r5⟩,e0,e1,e2,e3,e4,e5⟩:=cells6 h0
 have hset:=owns_setO (x:=(5,(page:Int),0)) hown1 (i:=l.length - 1) (by omega)
 have HSET:=Hh hset
 have HBW:=Hh hbw
 have H0:=Hh h0
 clear hown hown1 hb h0 hbw hx hcells hset
 have ws:IntKind.i64.wrap ((l.length:Int) - 1)=(l.length:Int) - 1:=IntWalk.i64_in _ (by omega)
 have ws1:(0:Int)≤(l.length:Int) - 1:=by omega
 have ws2:((l.length:Int) - 1).toNat=l.length - 1:=by omega
 have ws3:(l.length:Int) - 1<(l.length:Int):=by omega
 generalize hn:l.length=n at *
 have HN:=Hh hn; clear hn
 go_wp2_with fail
 refine bodyPost_ret (v:=.agg #[.int .i64 page,.int .u8 op,.string ⟨mn.toArray⟩,.slice (some ⟨g,0,none⟩) n c1,.string ⟨#[100]⟩,.bool true]) (by simp [results,Tryz.results259,go_sem,r0,r1,r2,r3,r4,r5,hl0]) rfl ⟨_,rfl,?_,?_⟩
 · exact t80_1
 · exact t80_0
set_option maxHeartbeats 4000000 in
set_option maxRecDepth 100000 in
theorem both_reg (page op q s:Nat) (mn:List UInt8) (l:List Op3) (al:Bool) (w:World) (hp1:5≤page) (hp2:page≤6) (hq:bits BinOp.or IntKind.u8 (bits BinOp.andNot IntKind.u8 (op:Int) 7) 6=(q:Int)) (hs:bits BinOp.and IntKind.u8 (op:Int) 7=(s:Int)) (hs8:s<8)
 (HF:Hid (∀ W,TabsA W→Calls Tryz.prog 257 #[.int .i64 page,.string cbS,.int .u8 q] W fun e w'=>∃ v ex,e=.returned (.tuple #[.agg #[.int .i64 page,.int .u8 q,.string ⟨mn.toArray⟩,v,.string ex,.bool al],.bool true])∧w'.ownsRow W.heap.size 172 3 v l.length (opc l)∧Below W.heap.size W w'))
 (HT:Hid (TabsA w)) (h1:1≤l.length) (h2:l.length≤3) (hs6:((s:Int) == 6)=false) (hbit:(mn == [66,73,84])=false) :
 Calls Tryz.prog 259 #[.int .i64 page,.int .u8 op] w fun e w'=>∃ v,e=.returned (.agg #[.int .i64 page,.int .u8 op,.string ⟨mn.toArray⟩,v,.string ⟨#[100]⟩,.bool al])∧w'.ownsRow w.heap.size 172 3 v (l.length+1) (opc (l.set (l.length - 1) (5,page,0)++[(1,(s:Int),0)]))∧Below w.heap.size w w':=by
 obtain ⟨i0,hi,hz0,hz1,hz2⟩:=info_parts Tryz.infoOperand
 go_enter Tryz.func259,Tryz.ntmps259
 go_wp2_with fail
 refine (HF.out _ (HT.out.below (bl))).mono ?_
 rintro e w1 ⟨v,ex,rfl,hown,hb⟩
 have h0:=box_kept hb
 have hbw:=below_of_alloc hb
 have hl0:=blk_lt h0
 have hown1:=owns_mono hown (b':=w.heap.size+1) (by simp)
 rcases hown1.2 with ⟨_,hz⟩ | ⟨g,c1,cur,rfl,hg0,hg1,_⟩
 · omega
 replace hg1:=blk_lt hg1
 obtain ⟨a1',c1',ha1,_,hcells⟩:=(WRow.of_owns hown1).op
 cases ha1
 obtain ⟨g',o,ho,_,_,hcells⟩:=hcells (by intro e; rw [e] at h1; simp at h1)
 cases ho
 obtain ⟨x,hx⟩:∃ x,l[l.length - 1]? = some x:=⟨_,List.getElem?_eq_getElem (by omega)⟩
 obtain ⟨d0,d1,d2,q0,q1,q2⟩:=hcells _ x hx
 simp only [Nat.zero_add] at d0 d1 d2 q0 q1 q2
 obtain ⟨⟨r0,r1,r2,r3,r4,r5⟩,e0,e1,e2,e3,e4,e5⟩:=cells6 h0
 have hset:=owns_setO (x:=(5,(page:Int),0)) hown1 (i:=l.length - 1) (by omega)
 have HSET:=Hh hset
 have HBW:=Hh hbw
 have H0:=Hh h0
 clear hown hown1 hb h0 hbw hx hcells hset
 have ws:IntKind.i64.wrap ((l.length:Int) - 1)=(l.length:Int) - 1:=IntWalk.i64_in _ (by omega)
 have ws1:(0:Int)≤(l.length:Int) - 1:=by omega
 have ws2:((l.length:Int) - 1).toNat=l.length - 1:=by omega
 have ws3:(l.length:Int) - 1<(l.length:Int):=by omega
 generalize hn:l.length=n at *
 have HN:=Hh hn; clear hn
 have hgb:w.heap.size<g:=by omega
 have hne1:w1.heap.size≠g:=by omega
 go_wp2_with (at_builtin; refine wpList_append_own _ rfl _ _ 22 rfl (w.heap.size+1) 172 i0 (.agg #[.int .i64 0,.int .i64 0,.int .i64 0]) 3 24 Tryz.underlying22 hi hz0 hz1 hz2 rfl (by decide) _ _ _ rfl ((HSET.out.alloc _).alloc _) ⟨w1.heap.size+1,0,none⟩ 1 1 [.int .i64 1,.int .i64 s,.int .i64 0] rfl rfl ?c1 ?c2 ?c3 ?c4 ?c5 ?_)
 case c1=>exact src3 (by rw [show w1.heap.size+1=(((((w1.setCell ⟨g,(n - 1) * 3,none⟩ (.int .i64 5)).setCell ⟨g,(n - 1) * 3+1,none⟩ (.int .i64 page)).setCell ⟨g,(n - 1) * 3+2,none⟩ (.int .i64 0))).alloc (.cells #[.int .i64 page,.int .u8 op,.string ⟨mn.toArray⟩,.slice (some ⟨g,0,none⟩) n c1,.string ⟨#[100]⟩,.bool al] 41)).heap.size by rw [World.size_alloc,setCell_size,setCell_size,setCell_size]]; exact new_block _ _)
 case c2=>intro u hu; simp at hu; rcases hu with rfl | rfl | rfl<;>rfl
 case c3=>unfold maxLen; omega
 case c4=>omega
 case c5=>rw [World.size_alloc,World.size_alloc,setCell_size,setCell_size,setCell_size]; omega
 intro v2 w3 hown3 hgrow3 _
 obtain ⟨a2,c2,rfl⟩:=owns_slice hown3
 have hX0:=blk_alloc (o':=.cells #[.int .i64 1,.int .i64 s,.int .i64 0] 172) (blk_alloc (o':=(.cells #[.int .i64 page,.int .u8 op,.string ⟨mn.toArray⟩,.slice (some ⟨g,0,none⟩) n c1,.string ⟨#[100]⟩,.bool al] 41)) (blk_other (blk_other (blk_other H0.out (b:=g) (i:=(n - 1) * 3) (v:=.int .i64 5) (by omega)) (b:=g) (i:=(n - 1) * 3+1) (v:=.int .i64 page) (by omega)) (b:=g) (i:=(n - 1) * 3+2) (v:=.int .i64 0) (by omega)))
 have hX1:=blk_alloc (o':=.cells #[.int .i64 1,.int .i64 s,.int .i64 0] 172) (new_block (((w1.setCell ⟨g,(n - 1) * 3,none⟩ (.int .i64 5)).setCell ⟨g,(n - 1) * 3+1,none⟩ (.int .i64 page)).setCell ⟨g,(n - 1) * 3+2,none⟩ (.int .i64 0)) (.cells #[.int .i64 page,.int .u8 op,.string ⟨mn.toArray⟩,.slice (some ⟨g,0,none⟩) n c1,.string ⟨#[100]⟩,.bool al] 41))
 have hszS:(((w1.setCell ⟨g,(n - 1) * 3,none⟩ (.int .i64 5)).setCell ⟨g,(n - 1) * 3+1,none⟩ (.int .i64 page)).setCell ⟨g,(n - 1) * 3+2,none⟩ (.int .i64 0)).heap.size=w1.heap.size:=by rw [setCell_size,setCell_size,setCell_size]
 rw [hszS] at hX1
 have hr3:=(hgrow3.block w.heap.size (blk_lt hX0) (fun e=>by have q3:w.heap.size=g:=Option.some.inj e; omega)).trans hX0
 have hn3:=(hgrow3.block w1.heap.size (blk_lt hX1) (fun e=>hne1 (Option.some.inj e))).trans hX1
 have hbX:Below w.heap.size w (((w1.setCell ⟨g,(n - 1) * 3,none⟩ (.int .i64 5)).setCell ⟨g,(n - 1) * 3+1,none⟩ (.int .i64 page)).setCell ⟨g,(n - 1) * 3+2,none⟩ (.int .i64 0)):=((HBW.out.setCell (p:=⟨g,(n - 1) * 3,none⟩) (by show w.heap.size≤g; omega) _).setCell (p:=⟨g,(n - 1) * 3+1,none⟩) (by show w.heap.size≤g; omega) _).setCell (p:=⟨g,(n - 1) * 3+2,none⟩) (by show w.heap.size≤g; omega) _
 have hb3:=((hbX.alloc (by rw [hszS]; omega) (.cells #[.int .i64 page,.int .u8 op,.string ⟨mn.toArray⟩,.slice (some ⟨g,0,none⟩) n c1,.string ⟨#[100]⟩,.bool al] 41)).alloc (by rw [World.size_alloc,hszS]; omega) (.cells #[.int .i64 1,.int .i64 s,.int .i64 0] 172)).grown hgrow3 (by rw [World.size_alloc,World.size_alloc,hszS]; omega) (fun q e=>by have q3:g=q:=Option.some.inj e; omega)
 have hl3:=blk_lt hn3
 have hown4:=owns_mono hown3 (b':=w.heap.size+1) (Nat.le_refl _)
 have hne3:some w1.heap.size≠(Value.slice a2 (n+1) c2).ownBlock:=fun e=>by
  rcases hown3.2 with ⟨h,_⟩ | ⟨g',cap,cur,h,_,hh,_⟩
  · rw [h] at e; cases e
  · rw [h] at e
    have q3:w1.heap.size=g':=Option.some.inj e
    rw [←q3,hn3] at hh
    have:=Option.some.inj hh
    simp at this
 obtain ⟨⟨t0,t1,t2,t3,t4,t5⟩,y0,y1,y2,y3,y4,y5⟩:=cells6 hn3
 obtain ⟨⟨r0,r1,r2,r3,r4,r5⟩,e0,e1,e2,e3,e4,e5⟩:=cells6 hr3
 have HOWN3:=Hh hown3
 have HB3:=Hh hb3
 clear hown3 hgrow3 hX0 hX1 hszS hr3 hn3 hbX hb3 hown4
 go_wp2_with fail
 refine bodyPost_ret (v:=.agg #[.int .i64 page,.int .u8 op,.string ⟨mn.toArray⟩,.slice a2 (n+1) c2,.string ⟨#[100]⟩,.bool al]) (by simp [results,Tryz.results259,go_sem,r0,r1,r2,r3,r4,r5]) rfl ⟨_,rfl,?_,?_⟩
 · rw [HN.out,show opc (l.set (n - 1) (5,(page:Int),0)++[(1,(s:Int),0)])=opc (l.set (n - 1) (5,(page:Int),0))++[.int .i64 1,.int .i64 s,.int .i64 0] by simp [opc]]
   have h7:=Kb.owns HOWN3.out ((Kb.refl w1.heap.size w3).setCell 3 (.slice a2 (n+1) c2)) hne3.symm
   exact owns_mono (Kb.owns h7 (((((((Kb.refl w.heap.size _).setCell 0 _).setCell 1 _).setCell 2 _).setCell 3 _).setCell 4 _).setCell 5 _) (own_ne h7 (k:=w.heap.size) (by omega)).symm) (by omega)
 · have hb9:=HB3.out
   with_reducible repeat (refine Below.setCell ?_ (by first | exact Nat.le_refl _ | (show w.heap.size≤w1.heap.size; omega)) _)
   exact hb9
end Go.Proofs.YtkldoojonnkfgaaGreatDoor
