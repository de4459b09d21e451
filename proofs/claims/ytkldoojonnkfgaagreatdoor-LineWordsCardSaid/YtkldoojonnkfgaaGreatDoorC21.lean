/- Joined texts: SetP, SMapW, TabsA, OpsT, AppSrc, Clone, Instr. -/
import Derived.Test.YtkldoojonnkfgaaGreatDoorC20
namespace Go.Proofs.YtkldoojonnkfgaaGreatDoor
open Go.RowKit Go.Sort
def setM (l:List (List UInt8)):List (ByteArray × Value):=l.foldl (fun m s=>sput m ⟨s.toArray⟩ (.bool true)) []
theorem setM_snoc (l:List (List UInt8)) (s:List UInt8):setM (l++[s])=sput (setM l) ⟨s.toArray⟩ (.bool true):=by unfold setM; rw [List.foldl_append]; rfl
theorem bytes_eq (s:List UInt8) (t:ByteArray):t=⟨s.toArray⟩↔t.data.toList=s:=by
 constructor
 · rintro rfl; rfl
 · intro h; apply ByteArray.ext; apply Array.toList_inj.1; rw [h]
theorem puts_get:∀ (l:List (List UInt8)) (m:List (ByteArray × Value)) (t:ByteArray),sget (l.foldl (fun m s=>sput m ⟨s.toArray⟩ (.bool true)) m) t=if t.data.toList∈l then some (.bool true) else sget m t
 | [],m,t=>by simp
 | s::l,m,t=>by
   rw [List.foldl_cons,puts_get l,sget_sput,bbeq]
   by_cases h1:t.data.toList∈l
   · simp [h1]
   · by_cases h2:t=⟨s.toArray⟩
     · have h3:=(bytes_eq s t).1 h2
       rw [if_neg h1,if_pos (by simpa using h2),if_pos (by rw [h3]; exact List.mem_cons_self)]
     · have h3:t.data.toList≠s:=fun e=>h2 ((bytes_eq s t).2 e)
       rw [if_neg h1,if_neg (by simpa using h2),if_neg (by simp [h1,h3])]
theorem setM_get (l:List (List UInt8)) (t:ByteArray):sget (setM l) t=if t.data.toList∈l then some (.bool true) else none:=by
 unfold setM
 rw [puts_get]
 rfl
theorem setM_bool (l:List (List UInt8)) (t:ByteArray):(sget (setM l) t).getD (.bool false)=.bool (decide (t.data.toList∈l)):=by
 rw [setM_get]
 by_cases h:t.data.toList∈l<;>simp [h]
end Go.Proofs.YtkldoojonnkfgaaGreatDoor
namespace Go.Proofs.YtkldoojonnkfgaaGreatDoor
open Go.RowKit Go.Sort
open Go.ChangeMaps
theorem Kb.setBlock {b:Nat} {u w:World} (h:Kb b u w) (o:Obj):Kb b u (setBlock w b o) :=
 ⟨h.os,h.tape,h.output,by rw [setBlock_size]; exact h.size,fun k hk hne=>(setBlock_other w b o k hne).trans (h.block k hk hne)⟩
theorem wpList_sput {P:Program} {w:World} {ops:Array Oper} {rest:List Oper} {o:Oper} {a:Act} {Q:Exit→Act→World→Prop}
 (hg:o.guard=none) (m x v:Operand) (T:TypeId) (hop:o.op=Op.mapUpdate T m x v) (K E:TypeId) (ht:P.underlying T=some (.map K E)) (hk:P.underlying K=some .string) (b:Nat) (l:List (ByteArray × Value)) (s:ByteArray) (val:Value)
 (hm:a.eval m=.map (some b)) (hx:a.eval x=.string s) (hv:a.eval v=val) (h:SMap w b l)
 (hK:∀ w',SMap w' b (sput l s val)→Kb b w w'→w'.heap.size=w.heap.size→wpList P ops Q rest (a.put o.dst undef) w') :
 wpList P ops Q (o::rest) a w:=by
 refine wpList_plain hg fun K' hK'=>?_
 obtain ⟨ob,hrun,hs⟩:=run_sput ht hk h s val
 unfold Oper.wp
 simp [execOp,hop,hm,hx,hv,hrun,Result.andThen]
 exact hK' _ _ (hK _ hs ((Kb.refl b w).setBlock ob) (by unfold setBlock; simp))
def SRng (w:World) (b r:Nat) (l left:List (ByteArray × Value)):Prop :=
 ∃ es c since seen c0,w.heap[b]? = some (.map es c)∧es.toList.map ekv=l.map (fun x=>(Value.string x.1,x.2))∧MapKept.Stamped es c ∧
  w.heap[r]? = some (.mapIter (some b) since seen c0)∧(∀ x∈es.toList,x.born<since)∧since≤c0∧since≤c∧(leftOf es seen).toList.map ekv=left.map (fun x=>(Value.string x.1,x.2))
theorem SRng.block {w w':World} {b r:Nat} {l left:List (ByteArray × Value)} (h:SRng w b r l left) (hb:w'.heap[b]? = w.heap[b]?) (hr:w'.heap[r]? = w.heap[r]?):SRng w' b r l left:=by
 obtain ⟨es,c,since,seen,c0,h1,h2,h3,h4,h5⟩:=h
 exact ⟨es,c,since,seen,c0,hb.trans h1,h2,h3,hr.trans h4,h5⟩
theorem SRng.lt {w:World} {b r:Nat} {l left:List (ByteArray × Value)} (h:SRng w b r l left):r<w.heap.size:=by
 obtain ⟨es,c,since,seen,c0,h1,h2,h3,h4,h5⟩:=h
 exact (Array.getElem?_eq_some_iff.1 h4).1
theorem SRng.ne {w:World} {b r:Nat} {l left:List (ByteArray × Value)} (h:SRng w b r l left):b≠r:=by
 obtain ⟨es,c,since,seen,c0,h1,h2,h3,h4,h5⟩:=h
 intro e; rw [e,h4] at h1; cases h1
end Go.Proofs.YtkldoojonnkfgaaGreatDoor
namespace Go.Proofs.YtkldoojonnkfgaaGreatDoor
open Go.RowKit Go.Sort
structure TabsA (w:World):Prop where
 t:Tabs w
 sp : Lib.TabIs Tryz.prog w "strings.asciiSpace" .u8 Lib.asciiSpaceTab
 ml:∃ m,w.cell? ⟨1,0,none⟩=some (.int .i64 m)
theorem TabsA.below {w w':World} (h:TabsA w) (hb:Below w.heap.size w w'):TabsA w':=by
 refine ⟨h.t.below hb,?_,?_⟩
 · have h1:=h.sp
   unfold Lib.TabIs World.var? at h1 ⊢
   have hg : Tryz.prog.globalNamed "strings.asciiSpace" = some 4 := by kernel_rfl
   rw [hg] at h1 ⊢
   simp only [Option.bind_some] at h1 ⊢
   have hlt:4<w.heap.size:=by
    rcases Nat.lt_or_ge 4 w.heap.size with h' | h'
    · exact h'
    · rw [Array.getElem?_eq_none h'] at h1; cases h1
   rw [hb.block _ hlt]
   exact h1
 · obtain ⟨m,hm⟩:=h.ml
   exact ⟨m,(hb.cell (p:=⟨1,0,none⟩) (block_lt_of_cell (a:=⟨1,0,none⟩) hm)).trans hm⟩
theorem fields_any (l:List UInt8) (w:World) (hT:TabsA w) (hl:l.length≤1000000) (ha:l.all (fun b=>decide (b.toNat<128))=true) :
 Calls Tryz.prog 248 #[.string ⟨l.toArray⟩] w fun e w'=>e=.returned (.slice (some ⟨w.heap.size,0,none⟩) (Lib.fields l).length (Lib.fields l).length)∧w'=w.alloc (.cells ((Lib.fields l).map fun x=>Value.string ⟨x.toArray⟩).toArray 9) :=
 Tryz.strings_Fields ⟨l.toArray⟩ w (by show l.toArray.size<_; rw [List.size_toArray]; omega) (fun j b hb=>by
  have:=List.all_eq_true.1 ha b (List.mem_of_getElem? hb)
  simpa using this) hT.sp
set_option maxRecDepth 100000 in
theorem ops_any (w:World) (hT:TabsA w):Calls Tryz.prog 183 #[] w fun e w'=>e=.returned (.slice (some ⟨w.heap.size,0,none⟩) (Lib.fields opsT).length (Lib.fields opsT).length)∧w'=w.alloc (.cells ((Lib.fields opsT).map fun x=>Value.string ⟨x.toArray⟩).toArray 9):=by
 have h:=fields_any opsT w hT (by decide) (by decide +kernel)
 have hl:(⟨opsT.toArray⟩:ByteArray)=⟨#[65,68,67,32,65,68,68,32,65,78,68,32,66,73,84,32,67,65,76,76,32,67,67,70,32,67,80,32,67,80,68,32,67,80,68,82,32,67,80,73,32,67,80,73,82,32,67,80,76,32,68,65,65,32,68,69,67,32,68,73,32,68,74,78,90,32,69,73,32,69,88,32,69,88,88,32,72,65,76,84,32,73,77,32,73,78,32,73,78,67,32,73,78,68,32,73,78,68,82,32,73,78,73,32,73,78,73,82,32,74,80,32,74,82,32,76,68,32,76,68,68,32,76,68,68,82,32,76,68,73,32,76,68,73,82,32,78,69,71,32,78,79,80,32,79,82,32,79,84,68,82,32,79,84,73,82,32,79,85,84,32,79,85,84,68,32,79,85,84,73,32,80,79,80,32,80,85,83,72,32,82,69,83,32,82,69,84,32,82,69,84,73,32,82,69,84,78,32,82,76,32,82,76,65,32,82,76,67,32,82,76,67,65,32,82,76,68,32,82,82,32,82,82,65,32,82,82,67,32,82,82,67,65,32,82,82,68,32,82,83,84,32,83,66,67,32,83,67,70,32,83,69,84,32,83,76,65,32,83,76,76,32,83,82,65,32,83,82,76,32,83,85,66,32,88,79,82]⟩:=rfl
 rw [hl] at h
 have H:=Hh h; clear h hl
 go_enter Tryz.func183,Tryz.ntmps183
 go_wp2_with fail
 refine H.out.mono ?_
 rintro e w' ⟨rfl,rfl⟩
 go_wp2_with fail
 go_ret
 exact ⟨rfl,rfl⟩
end Go.Proofs.YtkldoojonnkfgaaGreatDoor
namespace Go.Proofs.YtkldoojonnkfgaaGreatDoor
open Go.RowKit Go.Sort
open Go.ChangeMaps
theorem wpList_append_src {P:Program} {w:World} {ops:Array Oper} {rest:List Oper} {o:Oper} {a:Act} {Q:Exit→Act→World→Prop} (hgd:o.guard=none) (s x:Operand) (t:TypeId)
 (ho:o.op=.call { callee:=.builtin .append,args:=#[s,x],argTypes:=#[t,t] })
 (base:Nat) (e:TypeId) (i:TypeInfo) (z:Value) (size bytes:Nat) (ht:P.underlying t=some (.slice e)) (hi:P.info? e=some i) (hz:i.zero=some z)
 (hsize:i.size=size) (hby:i.bytes=bytes) (hzs:z.cells.size=size) (hsz:0<size)
 (v:Value) (n:Nat) (xs:List Value) (hs:a.eval s=v) (hown:w.ownsRow base e size v n xs)
 (v2:Value) (m:Nat) (news:List Value) (hx:a.eval x=v2) (hsrc:SrcAt w v2 m news) (hl:news.length=m * size) (h1:∀ u∈news,u.oneCell'=true)
 (h63:n+m≤maxLen) (hbytes:(n+m) * bytes≤140737488355328) (hbase:base≤w.heap.size)
 (h:∀ v' w',w'.ownsRow base e size v' (n+m) (xs++news)→w.grownBy w' v.ownBlock→(v'=.slice none 0 0↔v=.slice none 0 0∧m=0)→wpList P ops Q rest (a.put o.dst v') w'):wpList P ops Q (o::rest) a w:=by
 refine wpList_plain hgd fun _ hK=>?_
 rcases hsrc with ⟨rfl,rfl⟩ | ⟨ad,c,rfl,hc⟩
 · have hn:news=[]:=List.eq_nil_of_length_eq_zero (by simpa using hl)
   subst hn
   have hrun:=run_append_owned_none (P:=P) (w:=w) base t o.type e i size ht hi v n xs hown
   unfold Oper.wp
   simp [execOp,ho,resolve,invoke,builtin,hs,hx,hrun,Result.andThen]
   exact hK _ _ (h v w (by simpa using hown) (World.grownBy.refl w _) (by simp))
 · exact wp_append_own w s x t ho base e i z size bytes ht hi hz hsize hby hzs hsz v n xs hs hown ad m c news hx hl hc h1 h63 hbytes hbase fun v' w' h2 h3 h4=>hK _ _ (h v' w' h2 h3 h4)
end Go.Proofs.YtkldoojonnkfgaaGreatDoor
namespace Go.Proofs.YtkldoojonnkfgaaGreatDoor
open Go.RowKit Go.Sort
theorem owns_lit (w:World) (base:Nat) (e:TypeId) (size:Nat) (hb:base≤w.heap.size):(w.alloc (.cells #[] e)).ownsRow base e size (.slice (some ⟨w.heap.size,0,none⟩) 0 0) 0 [] :=
 ⟨by simp,.inr ⟨w.heap.size,0,#[],rfl,hb,by show (w.heap.push _)[w.heap.size]? = _; simp,Nat.le_refl _,by simp,by simp,by simp⟩⟩
theorem row_src {w:World} {v:Value} {l:List Op3} (h:Row w v l.length (opc l)):(l=[]∧∃ c,v=.slice none 0 c)∨∃ ad c,v=.slice (some ad) l.length c∧∀ j u,(opc l)[j]? = some u→w.cell? (ad.add j)=some u:=by
 obtain ⟨a,cap,rfl,hn,h⟩:=h
 by_cases hx:opc l=[]
 · have hl:l=[]:=by
    have:=opc_len l
    rw [hx] at this
    exact List.eq_nil_of_length_eq_zero (by simp at this; omega)
   subst hl
   cases a with
   | none=>exact .inl ⟨rfl,_,rfl⟩
   | some ad=>exact .inr ⟨ad,cap,rfl,fun j u hu=>by rw [hx] at hu; simp at hu⟩
 · obtain ⟨g,o,rfl,hg,hc⟩:=h hx
   refine .inr ⟨_,cap,rfl,fun j u hu=>?_⟩
   rw [addr_add,hc j (List.getElem?_eq_some_iff.1 hu).1,hu]
theorem opc_one {l:List Op3} {u:Value} (h:u∈opc l):u.oneCell'=true:=by
 unfold opc at h
 obtain ⟨x,_,h⟩:=List.mem_flatMap.1 h
 simp at h
 rcases h with rfl | rfl | rfl<;>rfl
set_option maxHeartbeats 1000000 in
set_option maxRecDepth 100000 in
theorem clone_any (v:Value) (l:List Op3) (w:World) (h:Row w v l.length (opc l)) (hl:l.length≤1000000) :
 Calls Tryz.prog 90 #[v] w fun e w'=>∃ v',e=.returned v'∧w'.ownsRow w.heap.size 172 3 v' l.length (opc l)∧Below w.heap.size w w':=by
 obtain ⟨i0,hi,hz0,hz1,hz2⟩:=info_parts Tryz.infoOperand
 rcases row_src h with ⟨rfl,c,rfl⟩ | ⟨ad,c,rfl,hc⟩
 · have hnil:=@Lib.run_eql_slice_nil
   go_enter Tryz.func90,Tryz.ntmps90
   go_wp2_with fail
   go_ret
   exact ⟨_,rfl,World.ownsRow_nil _ _ _ _,Below.refl _ _⟩
 · have HC:=Hh hc; clear hc
   go_enter Tryz.func90,Tryz.ntmps90
   have hb0:Below w.heap.size w (w.alloc (.cells #[] 172)):=(Below.refl _ _).alloc (Nat.le_refl _) _
   have hsrc:SrcAt (w.alloc (.cells #[] 172)) (.slice (some ad) l.length c) l.length (opc l):=.inr ⟨ad,c,rfl,fun j u hu=>(hb0.cell (block_lt_of_cell (HC.out j u hu))).trans (HC.out j u hu)⟩
   have HSRC:=Hh hsrc; clear hsrc
   have hnil:=fun w=>@Lib.run_eql_slice_nil Tryz.prog w
   go_wp2_with (at_builtin; refine wpList_append_src rfl _ _ 22 rfl w.heap.size 172 i0 (.agg #[.int .i64 0,.int .i64 0,.int .i64 0]) 3 24 Tryz.underlying22 hi hz0 hz1 hz2 rfl (by decide) _ 0 [] rfl (owns_lit w _ _ 3 (Nat.le_refl _)) _ l.length (opc l) rfl HSRC.out (opc_len l) (fun u hu=>opc_one hu) (by unfold maxLen; omega) (by omega) (by simp) ?_)
   intro v' w1 hown hgrow _
   have hb:=hb0.grown hgrow (by simp) (by intro q hq; cases hq; exact Nat.le_refl _)
   have HOWN:=Hh hown; clear hown hgrow
   have HB:=Hh hb; clear hb
   go_wp2_with fail
   go_ret
   exact ⟨_,rfl,HOWN.out,HB.out⟩
set_option maxHeartbeats 1000000 in
theorem make_any (s:ByteArray) (v:Value) (l:List Op3) (w:World) (hs:s.size≤maxLen) (h:Row w v l.length (opc l)) (hl:l.length≤1000000) :
 Calls Tryz.prog 50 #[.string s,v] w fun e w'=>∃ v',e=.returned (.agg #[.string (upper s),v'])∧w'.ownsRow w.heap.size 172 3 v' l.length (opc l)∧Below w.heap.size w w':=by
 have HR:=Hh h; clear h
 go_enter Tryz.func50,Tryz.ntmps50
 go_wp2_with fail
 refine (upper_any s _ hs).mono ?_
 rintro e w1 ⟨rfl,hb⟩
 obtain ⟨p1,rfl⟩:=gw_of_below hb
 clear hb
 go_wp2_with fail
 refine (clone_any v l _ ?_ hl).mono ?_
 · exact HR.out.below (bl)
 rintro e w2 ⟨v',rfl,hown,hb⟩
 obtain ⟨a,c,rfl⟩:=owns_slice hown
 have k0:w2.cell? ⟨w.heap.size,0,none⟩=some (.string ⟨#[]⟩):=(hb.cell (p:=⟨w.heap.size,0,none⟩) (by first | (simp [go_sem]; done) | (simp [go_sem]; omega))).trans (by simp [go_sem])
 have k1:w2.cell? ⟨w.heap.size,1,none⟩=some (.slice none 0 0):=(hb.cell (p:=⟨w.heap.size,1,none⟩) (by first | (simp [go_sem]; done) | (simp [go_sem]; omega))).trans (by simp [go_sem])
 have f0:w2.frozen? ⟨w.heap.size,0,none⟩=false:=(hb.frozen (p:=⟨w.heap.size,0,none⟩) (by first | (simp [go_sem]; done) | (simp [go_sem]; omega))).trans (by simp [go_sem])
 have f1:w2.frozen? ⟨w.heap.size,1,none⟩=false:=(hb.frozen (p:=⟨w.heap.size,1,none⟩) (by first | (simp [go_sem]; done) | (simp [go_sem]; omega))).trans (by simp [go_sem])
 have hbw:Below w.heap.size w w2:=(show Below w.heap.size w _ from bl).trans (hb.mono (by first | (simp [go_sem]; done) | (simp [go_sem]; omega)))
 have hown2:=owns_mono hown (b':=w.heap.size+1) (by first | (simp [go_sem]; done) | (simp [go_sem]; omega))
 have HOWN:=Hh hown2; clear hown hown2
 have HBW:=Hh hbw; clear hbw hb
 go_wp2_with fail
 refine bodyPost_ret (v:=.agg #[.string (upper s),.slice a l.length c]) (by simp [results,Tryz.results50,go_sem,k0,k1]) rfl ⟨_,rfl,?_,(HBW.out.setCell (p:=⟨w.heap.size,0,none⟩) (Nat.le_refl _) _).setCell (p:=⟨w.heap.size,1,none⟩) (Nat.le_refl _) _⟩
 exact owns_mono (Kb.owns HOWN.out (((Kb.refl w.heap.size w2).setCell 0 _).setCell 1 _) (own_ne HOWN.out (k:=w.heap.size) (by omega)).symm) (by omega)
abbrev insV (m:List UInt8) (v:Value):Value:=.agg #[.string ⟨m.toArray⟩,v]
set_option maxHeartbeats 1000000 in
theorem same7_any (m1 m2:List UInt8) (v1 v2:Value) (l1 l2:List Op3) (w:World) (h1:Row w v1 l1.length (opc l1)) (h2:Row w v2 l2.length (opc l2)) (hl1:l1.length≤1000000) (hl2:l2.length≤1000000) :
 Calls Tryz.prog 117 #[insV m1 v1,insV m2 v2] w fun e w'=>e=.returned (.bool (decide (m1=m2∧l1=l2)))∧Below w.heap.size w w':=by
 obtain ⟨b,hb⟩:∃ b,(m1 == m2)=b:=⟨_,rfl⟩
 have H1:=Hh h1; have H2:=Hh h2
 obtain ⟨a1,c1,rfl,_,_⟩:=h1
 obtain ⟨a2,c2,rfl,_,_⟩:=h2
 cases b with
 | false =>
   have hr:decide (m1=m2∧l1=l2)=false:=decide_eq_false (fun h=>by rw [h.1] at hb; simp at hb)
   rw [hr]
   clear hr
   go_enter Tryz.func117,Tryz.ntmps117
   go_wp2_with fail
   go_ret
   exact ⟨rfl,bl⟩
 | true =>
   have hr:decide (m1=m2∧l1=l2)=decide (l1=l2):=by
    have:m1=m2:=by simpa using hb
    simp [this]
   rw [hr]
   clear hr
   go_enter Tryz.func117,Tryz.ntmps117
   go_wp2_with fail
   refine (equalOp_any _ _ l1 l2 _ (H1.out.below (bl)) (H2.out.below (bl)) hl1 hl2).mono ?_
   rintro e w1 ⟨rfl,hb1⟩
   obtain ⟨p1,rfl⟩:=gw_of_below hb1
   clear hb1
   go_wp2_with fail
   go_ret
   exact ⟨rfl,bl⟩
set_option maxHeartbeats 1000000 in
theorem check1_any (o:Op3) (w:World):Calls Tryz.prog 112 #[.agg #[.int .i64 o.1,.int .i64 o.2.1,.int .i64 o.2.2]] w fun e w'=>e=.returned (.bool (!opValid o.1 o.2.1 o.2.2))∧Below w.heap.size w w':=by
 obtain ⟨k,r,n⟩:=o
 go_enter Tryz.func112,Tryz.ntmps112
 go_wp2_with fail
 refine (valid_any k r n _).mono ?_
 rintro e w1 ⟨rfl,hb1⟩
 obtain ⟨p1,rfl⟩:=gw_of_below hb1
 clear hb1
 go_wp2_with fail
 go_ret
 exact ⟨rfl,bl⟩
end Go.Proofs.YtkldoojonnkfgaaGreatDoor
