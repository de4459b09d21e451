/- Joined texts: AppSrc, FindT. -/
import Derived.Test.YtkldoojonnkfgaaGreatDoorB11
import Derived.Test.YtkldoojonnkfgaaGreatDoorB24
namespace Go.Proofs.YtkldoojonnkfgaaGreatDoor
open Go.RowKit Go.Sort
open Go.ChangeMaps
theorem wpList_append_src {P:Program} {w:World} {ops:Array Oper} {rest:List Oper} {o:Oper} {a:Act} {Q:Exit→Act→World→Prop} (hgd:o.guard=none) (s x:Operand) (t:TypeId)
 (ho:o.op=.call { callee:=.builtin .append,args:=#[s,x],argTypes:=#[t,t] })
 (base:Nat) (e:TypeId) (i:TypeInfo) (z:Value) (size bytes:Nat) (ht:P.underlying t=some (.slice e)) (hi:P.info? e=some i) (hz:i.zero=some z)
 (hsize:i.size=size) (hby:i.bytes=bytes) (hzs:z.cells.size=size) (hsz:0<size)
 (v:Value) (n:Nat) (xs:List Value) (hs:a.eval s=v) (hown:w.ownsRow base e size v n xs)
 (v2:Value) (m:Nat) (news:List Value) (hx:a.eval x=v2) (hsrc:SrcAt w v2 m news) (hl:news.length=m * size) (h1:∀ u∈news,u.oneCell'=true)
 (h63:n+m≤maxLen) (hbytes:(n+m) * bytes≤140737488355328) (hbase:base≤w.heap.size)
 (h:∀ v' w',w'.ownsRow base e size v' (n+m) (xs++news)→w.grownBy w' v.ownBlock→(v'=.slice none 0 0↔v=.slice none 0 0∧m=0)→wpList P ops Q rest (a.put o.dst v') w'):wpList P ops Q (o::rest) a w:=by
 refine wpList_plain hgd fun _ hK=>?_
 rcases hsrc with ⟨rfl,rfl⟩ | ⟨ad,c,rfl,hc⟩
 · have hn:news=[]:=List.eq_nil_of_length_eq_zero (by simpa using hl)
   subst hn
   have hrun:=run_append_owned_none (P:=P) (w:=w) base t o.type e i size ht hi v n xs hown
   unfold Oper.wp
   simp [execOp,ho,resolve,invoke,builtin,hs,hx,hrun,Result.andThen]
   exact hK _ _ (h v w (by simpa using hown) (World.grownBy.refl w _) (by simp))
 · exact wp_append_own w s x t ho base e i z size bytes ht hi hz hsize hby hzs hsz v n xs hs hown ad m c news hx hl hc h1 h63 hbytes hbase fun v' w' h2 h3 h4=>hK _ _ (h v' w' h2 h3 h4)
end Go.Proofs.YtkldoojonnkfgaaGreatDoor
namespace Go.Proofs.YtkldoojonnkfgaaGreatDoor
open Go.RowKit Go.Sort
abbrev entV (e:Ent) (v:Value):Value:=.agg #[.int .i64 e.page,.int .u8 e.op,.string ⟨e.mn.toArray⟩,v,.string ⟨e.extra.toArray⟩,.bool e.alias]
def ent0:Ent:=⟨0,0,[],[],[],false⟩
theorem src3 {w:World} {g:Nat} {x y z:Value} {T:TypeId} (h:w.heap[g]? = some (.cells #[x,y,z] T (0,0))):∀ (j:Nat) (u:Value),[x,y,z][j]? = some u→w.cell? ((⟨g,0,none⟩:Addr).add j)=some u:=fun j u hu=>by
 rw [addr_add,Nat.zero_add]
 match j,hu with
 | 0,hu=>simp at hu; subst hu; simp [World.cell?,h]
 | 1,hu=>simp at hu; subst hu; simp [World.cell?,h]
 | 2,hu=>simp at hu; subst hu; simp [World.cell?,h]
theorem new_block (w:World) (o:Obj):(w.alloc o).heap[w.heap.size]? = some o:=by show (w.heap.push o)[w.heap.size]? = _; simp
theorem new_block2 (w:World) (o1 o2:Obj):((w.alloc o1).alloc o2).heap[w.heap.size+1]? = some o2:=by
 rw [show w.heap.size+1=(w.alloc o1).heap.size by simp]
 exact new_block _ _
theorem BuAt.setArgs {w:World} {b:Nat} {u:Bu} (h:BuAt w b u) (v:Value):BuAt (w.setCell ⟨b,3,none⟩ v) b { u with va:=v }:=by
 unfold BuAt at *
 show (w.heap.modify b _)[b]? = _
 rw [Array.getElem?_eq_getElem (by rw [Array.size_modify]; exact (Array.getElem?_eq_some_iff.1 h).1),Array.getElem_modify_self,(Array.getElem?_eq_some_iff.1 h).2]
 rfl
theorem BuAt.args {w:World} {b:Nat} {u:Bu} (h:BuAt w b u):w.cell? ⟨b,3,none⟩=some u.va∧w.frozen? ⟨b,3,none⟩=false:=by
 unfold BuAt at h
 refine ⟨?_,?_⟩<;>simp [World.cell?,World.frozen?,h]
theorem BuAt.entry {w:World} {b:Nat} {u:Bu} (h:BuAt w b u):w.cell? ⟨b,0,none⟩=some (.int .i64 u.page)∧w.cell? ⟨b,1,none⟩=some (.int .u8 u.op)∧w.cell? ⟨b,2,none⟩=some (.string ⟨u.mn.toArray⟩)∧w.cell? ⟨b,3,none⟩=some u.va∧w.cell? ⟨b,4,none⟩=some (.string ⟨u.ex.toArray⟩)∧w.cell? ⟨b,5,none⟩=some (.bool u.al):=by
 unfold BuAt at h
 refine ⟨?_,?_,?_,?_,?_,?_⟩<;>simp [World.cell?,h]
def aOf (bits:List UInt8) (op:Nat) (l:List (List UInt8)):List Op3:=l.map fun s=>(argP bits op s).1
def xOf (bits:List UInt8) (op:Nat) (l:List (List UInt8)):List UInt8:=l.flatMap fun s=>(argP bits op s).2
theorem argP_short (bits:List UInt8) (op:Nat) (s:List UInt8):(argP bits op s).2.length≤1:=by
 unfold argP
 repeat' split
 all_goals first | (simp; done) | (dsimp only; repeat' split)<;>simp
theorem xOf_short (bits:List UInt8) (op:Nat):∀ l:List (List UInt8),(xOf bits op l).length≤l.length
 | []=>by simp [xOf]
 | s::l=>by
   have h1:=argP_short bits op s
   have h2:=xOf_short bits op l
   unfold xOf at *
   rw [List.flatMap_cons,List.length_append,List.length_cons]
   omega
theorem aOf_snoc (bits:List UInt8) (op:Nat) (l:List (List UInt8)) (s:List UInt8):aOf bits op (l++[s])=aOf bits op l++[(argP bits op s).1]:=by simp [aOf]
theorem xOf_snoc (bits:List UInt8) (op:Nat) (l:List (List UInt8)) (s:List UInt8):xOf bits op (l++[s])=xOf bits op l++(argP bits op s).2:=by simp [xOf]
set_option maxHeartbeats 2000000 in
set_option maxRecDepth 100000 in
theorem find_none (page:Nat) (r0:RA) (rl:List RA) (op:Nat) (w:World) (hlen:rl.length≤1000) (hop:op<256) (hn:lookA op (r0::rl)=none) :
 Calls Tryz.prog 257 #[.int .i64 page,.string (joinA (r0::rl)),.int .u8 op] w fun e w'=>e=.returned (.tuple #[entV ent0 (.slice none 0 0),.bool false])∧Below w.heap.size w w':=by
 have hlk:=fun W=>lookup_any r0 rl op W hlen hop
 rw [hn] at hlk
 unfold lookV at hlk
 generalize joinA (r0::rl)=J at *
 have HL:=Hh hlk; clear hlk hn
 go_enter Tryz.func257,Tryz.ntmps257
 go_wp2_with fail
 refine (HL.out _).mono ?_
 rintro e w1 ⟨rfl,hb⟩
 obtain ⟨p1,rfl⟩:=gw_of_below hb
 clear hb
 go_wp2_with fail
 refine bodyPost_ret (v:=.tuple #[entV ent0 (.slice none 0 0),.bool false]) (by simp [results,Tryz.results257,go_sem,ent0]) rfl ⟨rfl,bl⟩
set_option maxHeartbeats 2000000 in
set_option maxRecDepth 100000 in
theorem find_core (page op n:Nat) (J:ByteArray) (tx bs mn:List UInt8) (A:List (List UInt8)) (al:Bool) (w:World) (HT:Hid (TabsA w)) (HA:Hid (A.length=n)) (hn3:n≤3) (H8:Hid (bs.length=8)) (hop:op<256)
 (HARG:Hid (∀ (j:Nat) (s:List UInt8),A[j]? = some s→s∈argW∧argC bs op s=true))
 (HL:Hid (∀ W,Calls Tryz.prog 191 #[.string J,.int .u8 op] W fun e w'=>e=.returned (.tuple #[.string ⟨tx.toArray⟩,.bool true])∧Below W.heap.size W w'))
 (HP:Hid (∀ W,TabsA W→Calls Tryz.prog 319 #[.string ⟨tx.toArray⟩] W fun e w'=>∃ a c,e=.returned (ruleV bs mn (.slice a n c) al)∧Row w' (.slice a n c) n (strc (A.map fun x=>⟨x.toArray⟩))∧Below W.heap.size W w')) :
 Calls Tryz.prog 257 #[.int .i64 page,.string J,.int .u8 op] w fun e w'=>∃ v,e=.returned (.tuple #[.agg #[.int .i64 page,.int .u8 op,.string ⟨mn.toArray⟩,v,.string ⟨(xOf bs op A).toArray⟩,.bool al],.bool true])∧w'.ownsRow w.heap.size 172 3 v n (opc (aOf bs op A))∧Below w.heap.size w w':=by
 obtain ⟨i0,hi,hz0,hz1,hz2⟩:=info_parts Tryz.infoOperand
 go_enter Tryz.func257,Tryz.ntmps257
 go_wp2_with fail
 refine (HL.out _).mono ?_
 rintro e w1 ⟨rfl,hb⟩
 have hb1:=below_of_alloc hb
 have HBX:=Hh (box_kept hb)
 have HB1:=Hh hb1; clear hb hb1
 go_wp2_with fail
 refine (HP.out w1 (HT.out.below HB1.out)).mono ?_
 rintro e w2 ⟨a,c,rfl,hrow,hb2⟩
 have hb3:=HB1.out.trans (hb2.mono HB1.out.size)
 have hbx:=(hb2.block _ (lt_of_block HBX.out)).trans HBX.out
 have hl2:=lt_of_block hbx
 have HB2:=Hh hb3; clear hb2 hb3
 have HBX2:=Hh hbx; clear hbx
 have HROW:=Hh hrow; clear hrow
 go_wp2_with fail
 obtain ⟨W1,hW1⟩:∃ W1,w2.alloc (.cells #[.string ⟨bs.toArray⟩,.string ⟨mn.toArray⟩,.slice a n c,.bool al] 383)=W1:=⟨_,rfl⟩
 have hs1:W1.heap.size=w2.heap.size+1:=by rw [←hW1]; simp
 have hb21:Below w2.heap.size w2 W1:=by rw [←hW1]; exact (Below.refl _ _).alloc (Nat.le_refl _) _
 rw [hW1,←hs1]
 have HW1:=Hh hW1; clear hW1
 have hnb:=new_block W1 (.cells #[.int .i64 page,.int .u8 op,.string ⟨mn.toArray⟩,.slice none 0 0,.string ⟨#[]⟩,.bool al,.string ⟨bs.toArray⟩,.string ⟨mn.toArray⟩,.slice a n c,.bool al] 387)
 obtain ⟨B,hB⟩:∃ B,W1.heap.size=B:=⟨_,rfl⟩
 rw [hB] at hs1 hnb ⊢
 have hgB:w2.heap.size<B:=by omega
 have HS1:=Hh hs1; clear hs1
 have HBB:=Hh hB; clear hB
 have HNB:=Hh hnb; clear hnb
 go_loopw [44] (fun i wr=>∃ (j:Nat) (v:Value),j≤n∧i=.int .i64 j∧Hid (BuAt wr B ⟨page,op,mn,v,xOf bs op (A.take j),al,bs,mn,a,n,c,al⟩)∧Hid (wr.ownsRow (B+1) 172 3 v j (opc (aOf bs op (A.take j))))∧Hid (Below B W1 wr)) (fun i _=>n - (intOf i).toNat)
 case atStart=>exact ⟨0,.slice none 0 0,Nat.zero_le _,rfl,Hh HNB.out,Hh (World.ownsRow_nil _ _ _ _),Hh ((Below.refl _ _).alloc (Nat.le_of_eq HBB.out.symm) _)⟩
 case round =>
  obtain ⟨j,v,hj,rfl,HBU,HOWN,HBL⟩:=hrel
  have hsz:B<wr.heap.size:=HBU.out.lt
  by_cases hlt:j<n
  · obtain ⟨s,hs⟩:∃ s,A[j]? = some s:=⟨_,List.getElem?_eq_getElem (by rw [HA.out]; exact hlt)⟩
    obtain ⟨hsm,hsc⟩:=HARG.out j s hs
    obtain ⟨a',c',ha',hc',hrow⟩:=HROW.out
    cases ha'
    obtain ⟨g,o,ha,hg,hcell⟩:=hrow (by intro e; have:=strc_len (A.map fun x=>(⟨x.toArray⟩:ByteArray)); rw [e,List.length_map,HA.out] at this; simp at this; omega)
    subst ha
    have hc:=hcell j (by rw [strc_len,List.length_map,HA.out]; exact hlt)
    have hcs:wr.cell? ⟨g,o+j,none⟩=some (.string ⟨s.toArray⟩):=by
     rw [HBL.out.cell (p:=⟨g,o+j,none⟩) (by show g<_; omega),hb21.cell (p:=⟨g,o+j,none⟩) hg,hc]
     simp [strc,hs]
    clear hcell hc hrow
    have hTr:TabsA wr:=((HT.out.below HB2.out).below hb21).below (by rw [HBB.out]; exact HBL.out)
    have hxl:=xOf_short bs op (A.take j)
    rw [List.length_take] at hxl
    have harg:=arg_any B ⟨page,op,mn,v,xOf bs op (A.take j),al,bs,mn,some ⟨g,o,none⟩,n,c,al⟩ s wr hTr HBU.out H8.out hop (by show (xOf bs op (A.take j)).length≤100; omega) hsm hsc
    have hx1:=xOf_snoc bs op (A.take j) s
    have ha1:=aOf_snoc bs op (A.take j) s
    rw [show A.take j++[s]=A.take (j+1) by rw [List.take_add_one,hs]; rfl] at hx1 ha1
    unfold ArgRes at harg
    dsimp only at harg
    rw [←hx1] at harg
    obtain ⟨⟨o0,o1,o2⟩,ho⟩:∃ x,(argP bs op s).1=x:=⟨_,rfl⟩
    rw [ho] at harg ha1
    have HX:=Hh ha1
    have HARG2:=Hh harg
    clear ha1 hx1 harg ho hs hsm hsc hxl hTr
    have hi0:(0:Int)≤(j:Int):=by omega
    have hi1:(j:Int)<(n:Int):=by omega
    go_wp2_with fail
    refine HARG2.out.mono ?_
    rintro e w3 ⟨rfl,hbu3,hk3⟩
    have hown3:=Kb.owns HOWN.out hk3 (own_ne HOWN.out (k:=B) (by omega)).symm
    have hbl3:=HBL.out.trans (hk3.belowN (Nat.le_refl _) (Nat.le_of_lt hsz))
    have hl3:=hbu3.lt
    obtain ⟨c3,f3⟩:=hbu3.args
    dsimp only at c3
    have HBU3:=Hh hbu3; clear hbu3 hk3
    have HOWN3:=Hh hown3; clear hown3
    have HBL3:=Hh hbl3; clear hbl3
    go_wp2_with fail
    go_region_law ((
     refine step_append_src (by rfl) _ _ 22 (by rfl) (B+1) 172 i0 (.agg #[.int .i64 0,.int .i64 0,.int .i64 0]) 3 24 Tryz.underlying22 hi hz0 hz1 hz2 rfl (by decide) v j (opc (aOf bs op (A.take j))) ?_ ?_ (.slice (some ⟨w3.heap.size+1,0,none⟩) 1 1) 1 [.int .i64 o0,.int .i64 o1,.int .i64 o2] ?_ ?_ (by rfl) ?_ (by unfold maxLen; omega) (by omega) ?_ ?_
     · rfl
     · exact owns_below' HOWN3.out (bl)
     · rfl
     · exact .inr ⟨_,1,rfl,src3 (new_block2 w3 _ _)⟩
     · intro u hu; simp at hu; rcases hu with rfl | rfl | rfl<;>rfl
     · exact Nat.le_trans (Nat.succ_le_of_lt hl3) (Below.size (show Below w3.heap.size w3 _ from bl))
     intro v2 w5 hown5 hgrow5 _
     have hbu5:BuAt w5 B ⟨page,op,mn,v,xOf bs op (A.take (j+1)),al,bs,mn,some ⟨g,o,none⟩,n,c,al⟩:=(hgrow5.block B (Nat.lt_of_lt_of_le hl3 (Below.size (show Below w3.heap.size w3 _ from bl))) (own_ne HOWN3.out (k:=B) (by omega))).trans ((Below.block (show Below w3.heap.size w3 _ from bl) B hl3).trans HBU3.out)
     obtain ⟨a2,c2,rfl⟩:=owns_slice hown5
     have hc5:=hbu5.args.1
     have hf5:=hbu5.args.2
     dsimp only at hc5))
    all_goals
     have hown6:=Kb.owns hown5 ((Kb.refl B w5).setCell 3 (.slice a2 (j+1) c2)) (own_ne hown5 (k:=B) (by omega)).symm
     have hbu6:=hbu5.setArgs (.slice a2 (j+1) c2)
     have hbl5:Below B W1 w5:=(HBL3.out.trans (Below.mono (show Below w3.heap.size w3 _ from bl) (Nat.le_of_lt hl3))).grown hgrow5 (Nat.le_trans (Nat.le_of_lt hl3) (Below.size (show Below w3.heap.size w3 _ from bl))) (by
      intro q hq
      rcases HOWN3.out.2 with ⟨h,_⟩ | ⟨g',cap,cur,h,hg',_⟩
      · rw [h] at hq; cases hq
      · rw [h] at hq; have q3:g'=q:=Option.some.inj hq; omega)
     have hbl6:=hbl5.setCell (p:=⟨B,3,none⟩) (Nat.le_refl _) (.slice a2 (j+1) c2)
     have HOWN6:=Hh hown6
     have HBU6:=Hh hbu6
     have HBL6:=Hh hbl6
     clear hown6 hbu6 hbl6 hbl5 hgrow5 hown5
     go_wp2_with fail
     go_roundw
     case rel=>exact ⟨j+1,_,by omega,by go_num,Hh HBU6.out,Hh (by rw [HX.out]; have h7:=HOWN6.out; rwa [show opc (aOf bs op (A.take j)++[(o0,o1,o2)])=opc (aOf bs op (A.take j))++[.int .i64 o0,.int .i64 o1,.int .i64 o2] by simp [opc]]),Hh HBL6.out⟩
     case measure=>simp [intOf]; omega
  · obtain rfl:j=n:=by omega
    obtain ⟨c0,c1,c2,c3,c4,c5⟩:=HBU.out.entry
    dsimp only at c0 c1 c2 c3 c4 c5
    obtain ⟨a2,cc,rfl⟩:=owns_slice HOWN.out
    have hbw:Below w.heap.size w wr:=(HB2.out.trans (hb21.mono HB2.out.size)).trans (HBL.out.mono (by have:=HB2.out.size; omega))
    have hbx:wr.heap[w.heap.size]? = _:=(HBL.out.block w.heap.size (by omega)).trans ((hb21.block _ hl2).trans HBX2.out)
    have HBW:=Hh hbw; clear hbw
    obtain ⟨⟨k0,k1,k2,k3,k4,k5⟩,f0,f1,f2,f3,f4,f5⟩:=cells6 hbx
    clear hbx
    have hAj:A.take j=A:=List.take_of_length_le (by rw [HA.out]; exact Nat.le_refl _)
    rw [hAj] at c4
    have HOWN2:Hid (wr.ownsRow (B+1) 172 3 (.slice a2 j cc) j (opc (aOf bs op A))):=Hh (by have:=HOWN.out; rwa [hAj] at this)
    have hwB:w.heap.size<B:=by omega
    clear HOWN hAj
    have hsl:∃ n2,(Value.slice a2 n2 cc)=.slice a2 j cc:=⟨j,rfl⟩
    go_wp2_with fail
    refine bodyPost_ret (v:=.tuple #[.agg #[.int .i64 page,.int .u8 op,.string ⟨mn.toArray⟩,.slice a2 j cc,.string ⟨(xOf bs op A).toArray⟩,.bool al],.bool true]) (by simp [results,Tryz.results257,go_sem,k0,k1,k2,k3,k4,k5]) rfl ⟨.slice a2 j cc,rfl,?_,?_⟩
    · exact owns_mono (Kb.owns HOWN2.out (((((((Kb.refl w.heap.size wr).setCell 0 _).setCell 1 _).setCell 2 _).setCell 3 _).setCell 4 _).setCell 5 _) (own_ne HOWN2.out (k:=w.heap.size) (by omega)).symm) (by omega)
    · exact (((((HBW.out.setCell (p:=⟨w.heap.size,0,none⟩) (Nat.le_refl _) _).setCell (p:=⟨w.heap.size,1,none⟩) (Nat.le_refl _) _).setCell (p:=⟨w.heap.size,2,none⟩) (Nat.le_refl _) _).setCell (p:=⟨w.heap.size,3,none⟩) (Nat.le_refl _) _).setCell (p:=⟨w.heap.size,4,none⟩) (Nat.le_refl _) _).setCell (p:=⟨w.heap.size,5,none⟩) (Nat.le_refl _) _
theorem entOf_args (page op:Nat) (r:Rule):(entOf page op r).args=aOf r.bits op r.args:=rfl
theorem entOf_len (page op:Nat) (r:Rule):(entOf page op r).args.length=r.args.length:=by rw [entOf_args]; simp [aOf]
theorem find_some (page:Nat) (r0:RA) (rl:List RA) (op:Nat) (r:RA) (w:World) (hT:TabsA w) (hlen:rl.length≤1000) (hop:op<256) (hn:lookA op (r0::rl)=some r) :
 Calls Tryz.prog 257 #[.int .i64 page,.string (joinA (r0::rl)),.int .u8 op] w fun e w'=>∃ v,e=.returned (.tuple #[entV (entOf page op r.1) v,.bool true])∧w'.ownsRow w.heap.size 172 3 v (entOf page op r.1).args.length (opc (entOf page op r.1).args)∧Below w.heap.size w w':=by
 have hlk:=fun W=>lookup_any r0 rl op W hlen hop
 rw [hn] at hlk
 have h:=find_core page op r.1.args.length (joinA (r0::rl)) r.1.text r.1.bits r.1.mn r.1.args r.1.alias w (Hh hT) (Hh rfl) (rule3 r) (Hh (rule8 r)) hop
  (Hh (fun j s hs=>⟨argW_mem r.1 r.2 s (List.mem_of_getElem? hs),argC_ok r.1 r.2 s (List.mem_of_getElem? hs) ⟨op,hop⟩⟩)) (Hh hlk) (Hh (fun W hT=>parse_any r W hT))
 refine h.mono ?_
 rintro e w' ⟨v,he,hr,hb⟩
 refine ⟨v,he,?_,hb⟩
 rw [entOf_len]
 exact hr
end Go.Proofs.YtkldoojonnkfgaaGreatDoor
