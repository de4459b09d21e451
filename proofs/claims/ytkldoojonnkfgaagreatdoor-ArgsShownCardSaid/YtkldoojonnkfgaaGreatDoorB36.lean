/- Joined texts: SetP, SMapW, OpsT, OFunc, SetT. -/
import Derived.Test.YtkldoojonnkfgaaGreatDoorB32
namespace Go.Proofs.YtkldoojonnkfgaaGreatDoor
open Go.RowKit Go.Sort
def setM (l:List (List UInt8)):List (ByteArray × Value):=l.foldl (fun m s=>sput m ⟨s.toArray⟩ (.bool true)) []
theorem setM_snoc (l:List (List UInt8)) (s:List UInt8):setM (l++[s])=sput (setM l) ⟨s.toArray⟩ (.bool true):=by unfold setM; rw [List.foldl_append]; rfl
theorem bytes_eq (s:List UInt8) (t:ByteArray):t=⟨s.toArray⟩↔t.data.toList=s:=by
 constructor
 · rintro rfl; rfl
 · intro h; apply ByteArray.ext; apply Array.toList_inj.1; rw [h]
theorem puts_get:∀ (l:List (List UInt8)) (m:List (ByteArray × Value)) (t:ByteArray),sget (l.foldl (fun m s=>sput m ⟨s.toArray⟩ (.bool true)) m) t=if t.data.toList∈l then some (.bool true) else sget m t
 | [],m,t=>by simp
 | s::l,m,t=>by
   rw [List.foldl_cons,puts_get l,sget_sput,bbeq]
   by_cases h1:t.data.toList∈l
   · simp [h1]
   · by_cases h2:t=⟨s.toArray⟩
     · have h3:=(bytes_eq s t).1 h2
       rw [if_neg h1,if_pos (by simpa using h2),if_pos (by rw [h3]; exact List.mem_cons_self)]
     · have h3:t.data.toList≠s:=fun e=>h2 ((bytes_eq s t).2 e)
       rw [if_neg h1,if_neg (by simpa using h2),if_neg (by simp [h1,h3])]
theorem setM_get (l:List (List UInt8)) (t:ByteArray):sget (setM l) t=if t.data.toList∈l then some (.bool true) else none:=by
 unfold setM
 rw [puts_get]
 rfl
theorem setM_bool (l:List (List UInt8)) (t:ByteArray):(sget (setM l) t).getD (.bool false)=.bool (decide (t.data.toList∈l)):=by
 rw [setM_get]
 by_cases h:t.data.toList∈l<;>simp [h]
end Go.Proofs.YtkldoojonnkfgaaGreatDoor
namespace Go.Proofs.YtkldoojonnkfgaaGreatDoor
open Go.RowKit Go.Sort
open Go.ChangeMaps
theorem Kb.setBlock {b:Nat} {u w:World} (h:Kb b u w) (o:Obj):Kb b u (setBlock w b o) :=
 ⟨h.os,h.tape,h.output,by rw [setBlock_size]; exact h.size,fun k hk hne=>(setBlock_other w b o k hne).trans (h.block k hk hne)⟩
theorem wpList_sput {P:Program} {w:World} {ops:Array Oper} {rest:List Oper} {o:Oper} {a:Act} {Q:Exit→Act→World→Prop}
 (hg:o.guard=none) (m x v:Operand) (T:TypeId) (hop:o.op=Op.mapUpdate T m x v) (K E:TypeId) (ht:P.underlying T=some (.map K E)) (hk:P.underlying K=some .string) (b:Nat) (l:List (ByteArray × Value)) (s:ByteArray) (val:Value)
 (hm:a.eval m=.map (some b)) (hx:a.eval x=.string s) (hv:a.eval v=val) (h:SMap w b l)
 (hK:∀ w',SMap w' b (sput l s val)→Kb b w w'→w'.heap.size=w.heap.size→wpList P ops Q rest (a.put o.dst undef) w') :
 wpList P ops Q (o::rest) a w:=by
 refine wpList_plain hg fun K' hK'=>?_
 obtain ⟨ob,hrun,hs⟩:=run_sput ht hk h s val
 unfold Oper.wp
 simp [execOp,hop,hm,hx,hv,hrun,Result.andThen]
 exact hK' _ _ (hK _ hs ((Kb.refl b w).setBlock ob) (by unfold setBlock; simp))
def SRng (w:World) (b r:Nat) (l left:List (ByteArray × Value)):Prop :=
 ∃ es c since seen c0,w.heap[b]? = some (.map es c)∧es.toList.map ekv=l.map (fun x=>(Value.string x.1,x.2))∧MapKept.Stamped es c ∧
  w.heap[r]? = some (.mapIter (some b) since seen c0)∧(∀ x∈es.toList,x.born<since)∧since≤c0∧since≤c∧(leftOf es seen).toList.map ekv=left.map (fun x=>(Value.string x.1,x.2))
theorem SRng.block {w w':World} {b r:Nat} {l left:List (ByteArray × Value)} (h:SRng w b r l left) (hb:w'.heap[b]? = w.heap[b]?) (hr:w'.heap[r]? = w.heap[r]?):SRng w' b r l left:=by
 obtain ⟨es,c,since,seen,c0,h1,h2,h3,h4,h5⟩:=h
 exact ⟨es,c,since,seen,c0,hb.trans h1,h2,h3,hr.trans h4,h5⟩
theorem SRng.lt {w:World} {b r:Nat} {l left:List (ByteArray × Value)} (h:SRng w b r l left):r<w.heap.size:=by
 obtain ⟨es,c,since,seen,c0,h1,h2,h3,h4,h5⟩:=h
 exact (Array.getElem?_eq_some_iff.1 h4).1
theorem SRng.ne {w:World} {b r:Nat} {l left:List (ByteArray × Value)} (h:SRng w b r l left):b≠r:=by
 obtain ⟨es,c,since,seen,c0,h1,h2,h3,h4,h5⟩:=h
 intro e; rw [e,h4] at h1; cases h1
end Go.Proofs.YtkldoojonnkfgaaGreatDoor
namespace Go.Proofs.YtkldoojonnkfgaaGreatDoor
open Go.RowKit Go.Sort
set_option maxRecDepth 100000 in
theorem ops_any (w:World) (hT:TabsA w):Calls Tryz.prog 183 #[] w fun e w'=>e=.returned (.slice (some ⟨w.heap.size,0,none⟩) (Lib.fields opsT).length (Lib.fields opsT).length)∧w'=w.alloc (.cells ((Lib.fields opsT).map fun x=>Value.string ⟨x.toArray⟩).toArray 9):=by
 have h:=fields_any opsT w hT (by decide) (by decide +kernel)
 have hl:(⟨opsT.toArray⟩:ByteArray)=⟨#[65,68,67,32,65,68,68,32,65,78,68,32,66,73,84,32,67,65,76,76,32,67,67,70,32,67,80,32,67,80,68,32,67,80,68,82,32,67,80,73,32,67,80,73,82,32,67,80,76,32,68,65,65,32,68,69,67,32,68,73,32,68,74,78,90,32,69,73,32,69,88,32,69,88,88,32,72,65,76,84,32,73,77,32,73,78,32,73,78,67,32,73,78,68,32,73,78,68,82,32,73,78,73,32,73,78,73,82,32,74,80,32,74,82,32,76,68,32,76,68,68,32,76,68,68,82,32,76,68,73,32,76,68,73,82,32,78,69,71,32,78,79,80,32,79,82,32,79,84,68,82,32,79,84,73,82,32,79,85,84,32,79,85,84,68,32,79,85,84,73,32,80,79,80,32,80,85,83,72,32,82,69,83,32,82,69,84,32,82,69,84,73,32,82,69,84,78,32,82,76,32,82,76,65,32,82,76,67,32,82,76,67,65,32,82,76,68,32,82,82,32,82,82,65,32,82,82,67,32,82,82,67,65,32,82,82,68,32,82,83,84,32,83,66,67,32,83,67,70,32,83,69,84,32,83,76,65,32,83,76,76,32,83,82,65,32,83,82,76,32,83,85,66,32,88,79,82]⟩:=rfl
 rw [hl] at h
 have H:=Hh h; clear h hl
 go_enter Tryz.func183,Tryz.ntmps183
 go_wp2_with fail
 refine H.out.mono ?_
 rintro e w' ⟨rfl,rfl⟩
 go_wp2_with fail
 go_ret
 exact ⟨rfl,rfl⟩
set_option maxHeartbeats 1000000 in
theorem indexFuncO (P:Op3→Bool) (fn:Nat) (fb:Array Value) (v1:Value) (L:List Op3) (w:World) (h1:Row w v1 L.length (opc L)) (hl:L.length≤1000000) (hent:∀ args w,(callFunc fn args).run Tryz.prog w=.ok (.enter fn args) w)
 (hok:∀ y W,y∈L→Below w.heap.size w W→Calls Tryz.prog fn (#[.agg #[.int .i64 y.1,.int .i64 y.2.1,.int .i64 y.2.2]]++fb) W fun e w'=>e=.returned (.bool (P y))∧Below W.heap.size W w') :
 Calls Tryz.prog 184 #[v1,.func (.func fn) #[] fb] w fun e w'=>(∃ i:Int,e=.returned (.int .i64 i)∧decide (0≤i)=L.any P)∧Below w.heap.size w w':=by
 have HRW:=Hh h1
 obtain ⟨a1,c1,rfl,hc1,_⟩:=h1
 have HOK:=Hh hok; clear hok
 go_enter Tryz.func184,Tryz.ntmps184
 go_wp2_with fail
 go_loopw [5,8] (fun _ i wr=>∃ j:Nat,j≤L.length∧i=.int .i64 j∧Below w.heap.size w wr∧Hid ((L.take j).any P=false)) (fun _ i _=>L.length - (intOf i).toNat)
 case atStart=>exact ⟨0,Nat.zero_le _,rfl,Below.refl _ _,Hh (by simp)⟩
 case round =>
  obtain ⟨j,hj,rfl,hbel,Hno⟩:=hrel
  have HBEL:=Hh hbel; clear hbel
  by_cases hlt:j<L.length
  · obtain ⟨y,hy⟩:∃ y,L[j]? = some y:=⟨_,List.getElem?_eq_getElem hlt⟩
    obtain ⟨_,_,hv,_,hc⟩:=(HRW.out.below HBEL.out).op
    cases hv
    obtain ⟨g,o,rfl,hg,hc⟩:=hc (by intro e; rw [e] at hlt; exact absurd hlt (Nat.not_lt_zero _))
    obtain ⟨k0,k1,k2⟩:=hc j y hy
    clear hc
    have hi0:(0:Int)≤(j:Int):=by omega
    have hi1:(j:Int)<(L.length:Int):=by omega
    have hsz:w.heap.size≤wr.heap.size:=HBEL.out.size
    have hmem:y∈L:=List.mem_of_getElem? hy
    have hcall:=HOK.out y wr hmem HBEL.out
    obtain ⟨r,hr⟩:∃ r,P y=r:=⟨_,rfl⟩
    rw [hr] at hcall
    have HCALL:=Hh hcall; clear hcall
    have HR:=Hh hr; clear hr
    have HY:=Hh hy; clear hy
    have HM:=Hh hmem; clear hmem
    go_wp2_with fail
    refine HCALL.out.mono ?_
    rintro e w1 ⟨rfl,hb⟩
    have HB:=Hh (HBEL.out.trans (hb.mono hsz)); clear hb
    cases r with
    | true =>
      go_wp2_with fail
      go_ret
      exact ⟨⟨j,rfl,by rw [decide_eq_true hi0]; exact (List.any_eq_true.2 ⟨y,HM.out,HR.out⟩).symm⟩,HB.out⟩
    | false =>
      go_wp2_with fail
      go_roundw
      case rel=>exact ⟨j+1,by omega,by go_num,HB.out,Hh (by rw [List.take_add_one,HY.out]; simp [Hno.out,HR.out])⟩
      case measure=>simp [intOf]; omega
  · obtain rfl:j=L.length:=by omega
    have hno:L.any P=false:=by have:=Hno.out; rwa [List.take_length] at this
    have HNO:=Hh hno; clear hno
    go_wp2_with fail
    go_ret
    exact ⟨⟨-1,rfl,by rw [HNO.out]; rfl⟩,HBEL.out⟩
set_option maxHeartbeats 1000000 in
theorem containsFuncO (P:Op3→Bool) (fn:Nat) (fb:Array Value) (v1:Value) (L:List Op3) (w:World) (h1:Row w v1 L.length (opc L)) (hl:L.length≤1000000) (hent:∀ args w,(callFunc fn args).run Tryz.prog w=.ok (.enter fn args) w)
 (hok:∀ y W,y∈L→Below w.heap.size w W→Calls Tryz.prog fn (#[.agg #[.int .i64 y.1,.int .i64 y.2.1,.int .i64 y.2.2]]++fb) W fun e w'=>e=.returned (.bool (P y))∧Below W.heap.size W w') :
 Calls Tryz.prog 111 #[v1,.func (.func fn) #[] fb] w fun e w'=>e=.returned (.bool (L.any P))∧Below w.heap.size w w':=by
 have hc:=indexFuncO P fn fb v1 L w h1 hl hent hok
 have HC:=Hh hc; clear hc h1 hok
 go_enter Tryz.func111,Tryz.ntmps111
 go_wp2_with fail
 refine HC.out.mono ?_
 rintro e w1 ⟨⟨i,rfl,hi⟩,hb⟩
 have HI:=Hh hi; clear hi
 have HB:=Hh hb; clear hb
 go_wp2_with fail
 go_ret
 exact ⟨by rw [←HI.out]; rfl,HB.out⟩
set_option maxHeartbeats 1000000 in
theorem indexFuncI (r:Bool) (fn:Nat) (fb:Array Value) (g:Nat) (m:List UInt8) (v:Value) (w:World) (h1:Row w (.slice (some ⟨g,0,none⟩) 1 1) 1 [.string ⟨m.toArray⟩,v]) (hent:∀ args w,(callFunc fn args).run Tryz.prog w=.ok (.enter fn args) w)
 (hok:Calls Tryz.prog fn (#[insV m v]++fb) w fun e w'=>e=.returned (.bool r)∧Below w.heap.size w w') :
 Calls Tryz.prog 96 #[.slice (some ⟨g,0,none⟩) 1 1,.func (.func fn) #[] fb] w fun e w'=>(∃ i:Int,e=.returned (.int .i64 i)∧decide (0≤i)=r)∧Below w.heap.size w w':=by
 obtain ⟨_,_,hv,_,hc⟩:=h1
 cases hv
 obtain ⟨g',o',he,hg,hc⟩:=hc (by simp)
 cases he
 have k0:=hc 0 (by simp)
 have k1:=hc 1 (by simp)
 simp only [Nat.add_zero,Nat.zero_add,List.getElem?_cons_zero,List.getElem?_cons_succ] at k0 k1
 have HOK:=Hh hok; clear hok hc
 go_enter Tryz.func96,Tryz.ntmps96
 go_wp2_with fail
 go_loopw [5,8] (fun _ i wr=>(i=.int .i64 0∧wr=w)∨(i=.int .i64 1∧r=false∧Hid (Below w.heap.size w wr))) (fun _ i _=>1 - (intOf i).toNat)
 case atStart=>exact .inl ⟨rfl,rfl⟩
 case round =>
  rcases hrel with ⟨rfl,rfl⟩ | ⟨rfl,rfl,HB⟩
  · go_wp2_with fail
    refine HOK.out.mono ?_
    rintro e w1 ⟨rfl,hb⟩
    have HB:=Hh hb; clear hb
    cases r with
    | true =>
      go_wp2_with fail
      go_ret
      exact ⟨⟨0,rfl,rfl⟩,HB.out⟩
    | false =>
      go_wp2_with fail
      go_roundw
      case rel=>exact .inr ⟨by go_num,by trivial,HB⟩
      case measure=>simp [intOf]
  · go_wp2_with fail
    go_ret
    exact ⟨⟨-1,rfl,rfl⟩,HB.out⟩
set_option maxHeartbeats 1000000 in
theorem containsFuncI (r:Bool) (fn:Nat) (fb:Array Value) (g:Nat) (m:List UInt8) (v:Value) (w:World) (h1:Row w (.slice (some ⟨g,0,none⟩) 1 1) 1 [.string ⟨m.toArray⟩,v]) (hent:∀ args w,(callFunc fn args).run Tryz.prog w=.ok (.enter fn args) w)
 (hok:Calls Tryz.prog fn (#[insV m v]++fb) w fun e w'=>e=.returned (.bool r)∧Below w.heap.size w w') :
 Calls Tryz.prog 42 #[.slice (some ⟨g,0,none⟩) 1 1,.func (.func fn) #[] fb] w fun e w'=>e=.returned (.bool r)∧Below w.heap.size w w':=by
 have hc:=indexFuncI r fn fb g m v w h1 hent hok
 have HC:=Hh hc; clear hc h1 hok
 go_enter Tryz.func42,Tryz.ntmps42
 go_wp2_with fail
 refine HC.out.mono ?_
 rintro e w1 ⟨⟨i,rfl,hi⟩,hb⟩
 have HI:=Hh hi; clear hi
 have HB:=Hh hb; clear hb
 go_wp2_with fail
 go_ret
 exact ⟨by rw [←HI.out]; rfl,HB.out⟩
end Go.Proofs.YtkldoojonnkfgaaGreatDoor
namespace Go.Proofs.YtkldoojonnkfgaaGreatDoor
open Go.RowKit Go.Sort
open Go.ChangeMaps
theorem zeroBool7 (w:World):(zeroValue 4).run Tryz.prog w=.ok (.bool false) w:=by kernel_rfl
theorem makeSet (w:World):(Instr.makeMap 189 none).run Tryz.prog w=.ok (.map (some w.heap.size)) (w.alloc (.map #[] 0)):=by simp [Instr.makeMap]
set_option maxRecDepth 100000 in
set_option maxHeartbeats 2000000 in
theorem set_any (w:World) (hT:TabsA w):Calls Tryz.prog 107 #[] w fun e w'=>∃ b,e=.returned (.map (some b))∧SMap w' b (setM opsL)∧w.heap.size≤b∧Below w.heap.size w w':=by
 have hmk:=makeSet
 have hops:=fun W (hb:Below w.heap.size w W)=>ops_any W (hT.below hb)
 rw [opsT_fields] at hops
 have hlen:=opsL_len
 obtain ⟨L,hL⟩:∃ L,opsL=L:=⟨_,rfl⟩
 rw [hL] at hops hlen ⊢
 clear hL
 have HOPS:=Hh hops; clear hops
 have hlenI:(L.length:Int)=68:=by omega
 go_enter Tryz.func107,Tryz.ntmps107
 go_wp2_with fail
 refine (HOPS.out _ (bl)).mono ?_
 rintro e w1 ⟨rfl,hw1⟩
 have hb1:Below w.heap.size w w1:=by rw [hw1]; exact ((Below.refl _ _).alloc (Nat.le_refl _) _).alloc (by simp) _
 have hm1:SMap w1 w.heap.size (setM (L.take 0)):=by rw [hw1]; exact (SMap.new (by show (w.heap.push _)[_]? = _; simp)).alloc _
 have hr1:w1.heap[w.heap.size+1]? = some (.cells (L.map fun x=>Value.string ⟨x.toArray⟩).toArray 9 (0,0)):=by
  rw [hw1]
  have:=blk_new (w.alloc (.map #[] 0)) (.cells (L.map fun x=>Value.string ⟨x.toArray⟩).toArray 9)
  rwa [World.size_alloc] at this
 have hsz:(w.alloc (.map #[] 0)).heap.size=w.heap.size+1:=by simp
 rw [hsz]
 have HM:=Hh hm1; have HR:=Hh hr1; have HB:=Hh hb1
 clear hm1 hr1 hb1 hw1 hsz
 go_wp2_with fail
 go_loopw [7] (fun i wr=>∃ j:Nat,j≤L.length∧i=.int .i64 j∧Hid (SMap wr w.heap.size (setM (L.take j)))∧Hid (wr.heap[w.heap.size+1]? = some (.cells (L.map fun x=>Value.string ⟨x.toArray⟩).toArray 9 (0,0)))∧Hid (Below w.heap.size w wr)) (fun i _=>L.length - (intOf i).toNat)
 case atStart=>exact ⟨0,Nat.zero_le _,rfl,HM,HR,HB⟩
 case round =>
  obtain ⟨j,hj,rfl,HM2,HR2,HB2⟩:=hrel
  by_cases hlt:j<L.length
  · obtain ⟨x,hx⟩:∃ x,L[j]? = some x:=⟨_,List.getElem?_eq_getElem hlt⟩
    have hcy:wr.cell? ⟨w.heap.size+1,j,none⟩=some (.string ⟨x.toArray⟩):=by
     rw [blk_cell HR2.out]
     simp [hx]
    have htk:L.take (j+1)=L.take j++[x]:=by rw [List.take_add_one,hx]; rfl
    have HTK:=Hh htk; clear htk hx
    have hi0:(0:Int)≤(j:Int):=by omega
    have hi1:(j:Int)<(L.length:Int):=by omega
    have hi2:(j:Int)<68:=by omega
    clear hlenI
    go_wp2_with (at_mapUpdate; refine wpList_sput rfl _ _ _ 189 rfl 9 4 Tryz.underlying189 Tryz.underlying9 w.heap.size (setM (L.take j)) ⟨x.toArray⟩ (.bool true) rfl rfl rfl HM2.out ?_)
    intro w3 hm3 hk3 hz3
    have hm4:SMap w3 w.heap.size (setM (L.take (j+1))):=by rw [HTK.out,setM_snoc]; exact hm3
    have hr4:w3.heap[w.heap.size+1]? = some (.cells (L.map fun x=>Value.string ⟨x.toArray⟩).toArray 9 (0,0)):=(hk3.block _ (blk_lt HR2.out) (by omega)).trans HR2.out
    have hb4:Below w.heap.size w w3:=HB2.out.trans ⟨hk3.os,hk3.tape,hk3.output,hk3.size,fun k hk=>hk3.block k (Nat.lt_of_lt_of_le hk HB2.out.size) (by omega)⟩
    have HM4:=Hh hm4; have HR4:=Hh hr4; have HB4:=Hh hb4
    clear hm3 hk3 hz3 hm4 hr4 hb4
    go_wp2_with fail
    go_roundw
    case rel=>exact ⟨j+1,by omega,by go_num,HM4,HR4,HB4⟩
    case measure=>simp [intOf]; omega
  · obtain rfl:j=L.length:=by omega
    have hm5:=HM2.out
    rw [List.take_length] at hm5
    have HM5:=Hh hm5; clear hm5
    go_wp2_with fail
    go_ret
    exact ⟨_,rfl,HM5.out,Nat.le_refl _,HB2.out⟩
set_option maxHeartbeats 1000000 in
theorem knownI_any (s:ByteArray) (w:World) (hT:TabsA w) (hs:s.size≤maxLen):Calls Tryz.prog 48 #[.string s] w fun e w'=>e=.returned (.bool (decide ((upper s).data.toList∈opsL)))∧Below w.heap.size w w':=by
 have hset:=set_any w hT
 have hup:=fun W=>upper_any s W hs
 have hbool:=setM_bool opsL (upper s)
 obtain ⟨R,hR⟩:∃ R,decide ((upper s).data.toList∈opsL)=R:=⟨_,rfl⟩
 rw [hR] at hbool ⊢
 generalize setM opsL=M at *
 generalize upper s=U at *
 have HSET:=Hh hset; clear hset
 have HUP:=Hh hup; clear hup
 have HBO:=Hh hbool; clear hbool hR
 go_enter Tryz.func48,Tryz.ntmps48
 go_wp2_with fail
 refine HSET.out.mono ?_
 rintro e w1 ⟨b,rfl,hm,_,hb1⟩
 have HM:=Hh hm; have HB1:=Hh hb1; clear hm hb1
 go_wp2_with fail
 refine (HUP.out _).mono ?_
 rintro e w2 ⟨rfl,hb2⟩
 have hlk:=run_sget (P:=Tryz.prog) Tryz.underlying189 Tryz.underlying9 zeroBool7 (HM.out.below hb2) U false
 simp only [Bool.false_eq_true,if_false,HBO.out] at hlk
 have HB2:=Hh (HB1.out.trans (hb2.mono HB1.out.size)); clear hb2
 go_wp2_with fail
 go_ret
 exact ⟨rfl,HB2.out⟩
theorem set_look {W:World} {b:Nat} (h:SMap W b (setM opsL)) (s:ByteArray):(Instr.lookup 189 (.map (some b)) (.string s) false).run Tryz.prog W=.ok (.bool (decide (s.data.toList∈opsL))) W:=by
 have hlk:=run_sget (P:=Tryz.prog) Tryz.underlying189 Tryz.underlying9 zeroBool7 h s false
 rw [setM_bool] at hlk
 exact hlk
set_option maxHeartbeats 4000000 in
theorem checkI_raw (m:List UInt8) (v:Value) (l:List Op3) (w:World) (hT:TabsA w) (hr:Row w v l.length (opc l)) (hl:l.length≤1000000) (D A:Bool) (hD:decide (m∈opsL)=D) (hA:(l.any fun o=>!opValid o.1 o.2.1 o.2.2)=A) :
 Calls Tryz.prog 51 #[insV m v] w fun e w'=>e=.returned (.int .i64 (if D=false then 12 else if 3<l.length then 11 else if A=true then 2 else 0))∧Below w.heap.size w w':=by
 obtain ⟨R,hR⟩:∃ R:Int,(if D=false then 12 else if 3<l.length then 11 else if A=true then 2 else 0)=R:=⟨_,rfl⟩
 rw [hR]
 have HRR:=Hh hR; clear hR
 have hset:=fun W (hb:Below w.heap.size w W)=>set_any W (hT.below hb)
 have hlook:=fun W b (h:SMap W b (setM opsL))=>set_look h ⟨m.toArray⟩
 have hD2:decide ((⟨m.toArray⟩:ByteArray).data.toList∈opsL)=D:=hD
 rw [hD2] at hlook
 generalize setM opsL=M at *
 have hcf:=fun W (hb:Below w.heap.size w W)=>containsFuncO (fun o=>!opValid o.1 o.2.1 o.2.2) 112 #[] v l W (hr.below hb) hl (enters_of Tryz.func112 (by kernel_rfl) rfl) (fun y X _ _=>check1_any y X)
 rw [hA] at hcf
 have HSET:=Hh hset; clear hset
 have HLOOK:=Hh hlook; clear hlook
 have HCF:=Hh hcf; clear hcf
 clear hD hD2 hA
 obtain ⟨a,c,rfl,_,_⟩:=hr
 go_enter Tryz.func51,Tryz.ntmps51
 go_wp2_with fail
 obtain ⟨W,hW⟩:∃ W,(w.alloc (.cells #[.string ⟨m.toArray⟩,.slice a l.length c] 24))=W:=⟨_,rfl⟩
 have hbW:Below w.heap.size w W:=by rw [←hW]; exact (Below.refl _ _).alloc (Nat.le_refl _) _
 have hsz:W.heap.size=w.heap.size+1:=by rw [←hW]; simp
 have h0:W.heap[w.heap.size]? = some (.cells #[.string ⟨m.toArray⟩,.slice a l.length c] 24 (0,0)):=by rw [←hW]; exact blk_new _ _
 rw [hW]
 clear hW
 obtain ⟨t0,t1,_,_⟩:=cells2 h0
 have hl0:w.heap.size<W.heap.size:=by omega
 have HBW:=Hh hbW; have HSZ:=Hh hsz
 have hK:∀ X,Below W.heap.size W X→X.cell? ⟨w.heap.size,0,none⟩=some (.string ⟨m.toArray⟩)∧X.cell? ⟨w.heap.size,1,none⟩=some (.slice a l.length c):=fun X hb =>
  ⟨(hb.cell (p:=⟨w.heap.size,0,none⟩) hl0).trans t0,(hb.cell (p:=⟨w.heap.size,1,none⟩) hl0).trans t1⟩
 have HK:=Hh hK
 clear hbW hsz h0 hK
 have hd:Below W.heap.size W W.drew:=bl
 have hd2:Below w.heap.size w W.drew:=HBW.out.trans (hd.mono HBW.out.size)
 go_region_held3 (fun w'=>w'.cell? ⟨w.heap.size,0,none⟩=some (.string ⟨m.toArray⟩)∧w'.cell? ⟨w.heap.size,1,none⟩=some (.slice a l.length c)) (first | exact ⟨t0,t1⟩ | exact K4) (first | ((with_reducible refine (HSET.out _ hd2).mono ?_); rintro e w4 ⟨b4,rfl,hm4,_,hb4⟩; have hbw4:Below W.heap.size W w4:=hd.trans hb4; have K4:=HK.out w4 hbw4; have hlk4:=HLOOK.out w4 b4 hm4))
 have HB5:=Hh (HBW.out.trans (hbw4.mono HBW.out.size))
 obtain ⟨q0,q1⟩:=K4
 have hcf4:=HCF.out _ HB5.out
 have HCF4:=Hh hcf4
 clear hcf4 hd hd2 hbw4 hb4 hm4 hlk4 t0 t1 hl0
 cases D with
 | false =>
   go_wp2_with fail
   go_ret
   exact ⟨by rw [←HRR.out]; rfl,HB5.out⟩
 | true =>
   by_cases h3:3<l.length
   · have h3i:(3:Int)<(l.length:Int):=by omega
     have H3:=Hh h3
     clear h3
     go_wp2_with fail
     go_ret
     exact ⟨by rw [←HRR.out,if_neg (by decide),if_pos H3.out]; rfl,HB5.out⟩
   · have h3i:¬ (3:Int)<(l.length:Int):=by omega
     have H3:=Hh h3
     clear h3
     go_wp2_with fail
     (with_reducible refine HCF4.out.mono ?_)
     rintro e w6 ⟨rfl,hb6⟩
     have HB6:=Hh (HB5.out.trans (hb6.mono HB5.out.size)); clear hb6
     cases A with
     | true =>
       go_wp2_with fail
       go_ret
       exact ⟨by rw [←HRR.out,if_neg (by decide),if_neg H3.out]; rfl,HB6.out⟩
     | false =>
       go_wp2_with fail
       go_ret
       exact ⟨by rw [←HRR.out,if_neg (by decide),if_neg H3.out]; rfl,HB6.out⟩
theorem checkI_any (m:List UInt8) (v:Value) (l:List Op3) (w:World) (hT:TabsA w) (hr:Row w v l.length (opc l)) (hl:l.length≤1000000) :
 Calls Tryz.prog 51 #[insV m v] w fun e w'=>e=.returned (.int .i64 (checkP (m,l)))∧Below w.heap.size w w':=by
 have h:=checkI_raw m v l w hT hr hl _ _ rfl rfl
 have e:checkP (m,l)=if decide (m∈opsL)=false then 12 else if 3<l.length then 11 else if (l.any fun o=>!opValid o.1 o.2.1 o.2.2)=true then 2 else 0:=by
  unfold checkP
  by_cases h:m∈opsL<;>simp [h]
 rw [e]
 exact h
end Go.Proofs.YtkldoojonnkfgaaGreatDoor
