/- Joined texts: KeepC, StepsX, Choices0, ChoicesA, ChoicesB, ChoicesT. -/
import Derived.Test.YtkldoojonnkfgaaGreatDoorC36
namespace Go.Proofs.YtkldoojonnkfgaaGreatDoor
open Go.RowKit Go.Sort Go.Shelf
def KeepC (b:Nat) (A B:World):Prop:=A.heap.size≤B.heap.size∧∀ (k:Nat) (o:Obj),b≤k→A.heap[k]? = some o→o.isCells=true→B.heap[k]? = some o
theorem keepC_t {b:Nat} {A B C:World} (h:KeepC b A B) (k:KeepC b B C):KeepC b A C:=⟨Nat.le_trans h.1 k.1,fun n o hn ho hc=>k.2 n o hn (h.2 n o hn ho hc) hc⟩
theorem keepC_b {b:Nat} (W:World) (l:Nat) (o o':Obj) (hl:W.heap[l]? = some o) (hc:o.isCells=false):KeepC b W (W.putObj l o') :=
 ⟨by simp [World.putObj],fun k u _ hu hcu=>by
  refine (World.putObj_heap_other (fun e=>?_)).trans hu
  subst e
  rw [hl] at hu; cases hu; rw [hc] at hcu; cases hcu⟩
theorem keepC_below {b:Nat} {A B:World} (h:Below A.heap.size A B):KeepC b A B:=⟨h.size,fun _k _o _ ho _=>blk_below ho h (blk_lt ho)⟩
theorem WRow.keepC {A B:World} {b n N:Nat} {v:Value} {xs:List Value} (h:WRow A N v n xs) (hk:KeepC b A B) (hb:b≤N):WRow B N v n xs:=by
 obtain ⟨a,cap,hv,hn,h⟩:=h
 refine ⟨a,cap,hv,hn,fun hx=>?_⟩
 obtain ⟨g,o,ha,h0,hg,hc,hf⟩:=h hx
 have hpos:0<xs.length:=List.length_pos_iff.2 hx
 have hc0:=hc 0 hpos
 rw [List.getElem?_eq_getElem hpos] at hc0
 obtain ⟨ob,hob,hcells⟩:=cells_of_cell hc0
 have hob':=hk.2 g ob (by omega) hob hcells
 have he:B.heap[g]? = A.heap[g]? := hob'.trans hob.symm
 exact ⟨g,o,ha,h0,Nat.lt_of_lt_of_le hg hk.1,fun j hj=>(World.cell?_of_block (a:=⟨g,o+j,none⟩) he).trans (hc j hj),fun j hj=>(World.frozen?_of_block (a:=⟨g,o+j,none⟩) he).trans (hf j hj)⟩
theorem Row.keepC {A B:World} {n:Nat} {v:Value} {xs:List Value} (h:Row A v n xs) (hk:KeepC 0 A B):Row B v n xs:=by
 obtain ⟨a,cap,hv,hn,h⟩:=h
 refine ⟨a,cap,hv,hn,fun hx=>?_⟩
 obtain ⟨g,o,ha,hg,hc⟩:=h hx
 have hpos:0<xs.length:=List.length_pos_iff.2 hx
 have hc0:=hc 0 hpos
 rw [List.getElem?_eq_getElem hpos] at hc0
 obtain ⟨ob,hob,hcells⟩:=cells_of_cell hc0
 have hob':=hk.2 g ob (Nat.zero_le _) hob hcells
 have he:B.heap[g]? = A.heap[g]? := hob'.trans hob.symm
 exact ⟨g,o,ha,Nat.lt_of_lt_of_le hg hk.1,fun j hj=>(World.cell?_of_block (a:=⟨g,o+j,none⟩) he).trans (hc j hj)⟩
theorem grown_keepC {B:Nat} {W W':World} {row:Option Nat} (hg:W.grownBy W' row) (hr:∀ r,row=some r→B≤r∧∃ o:Obj,W.heap[r]? = some o∧o.isCells=false):KeepC 0 W W' :=
 ⟨hg.size,fun k o _ ho hc=>(hg.block k (blk_lt ho) (fun e=>by
  obtain ⟨_,o',h1,h2⟩:=hr k e.symm
  rw [ho] at h1; cases h1; rw [hc] at h2; cases h2)).trans ho⟩
theorem keepC_set {b g i:Nat} (W:World) (v:Value) (h:g<b):KeepC b W (W.setCell ⟨g,i,none⟩ v):=⟨by rw [setCell_size]; exact Nat.le_refl _,fun k o hk ho _=>blk_other ho (by omega)⟩
theorem blk_drew {X:World} {k:Nat} {o:Obj} (h:X.heap[k]? = some o):X.drew.heap[k]? = some o:=h
theorem keepO_below {A B:World} (h:Below A.heap.size A B):KeepsOthers A B:=⟨h.size,fun _k _o ho _=>blk_below ho h (blk_lt ho)⟩
end Go.Proofs.YtkldoojonnkfgaaGreatDoor
namespace Go.Proofs.YtkldoojonnkfgaaGreatDoor
open Go.RowKit
def SeqGoX {α:Type} (F:Fence) (n:Nat) (P:Program) (g:Nat) (lb:Array Value) (encs:α→Array Value) (Kp Kx St:World→World→Prop) (Rdy:World→Prop) (Gv:α→World→Prop) (S Sp:List α→Prop) (N:Nat):Prop :=
 ∀ (l:Nat) (J Jx:List α→World→Prop) (W:World),Rdy W→(∀ s A B,J s A→St A B→J s B)→(∀ s A B,Jx s A→St A B→Jx s B) →
  (∀ pre x A,J pre A→Gv x A→pre.length<N→YieldAt F (n - 1) P l (encs x) A fun e B =>
   (e=.returned (.bool true)∧J (pre++[x]) B∧Kp A B)∨(e=.returned (.bool false)∧Jx (pre++[x]) B∧Kx A B)) →
  J [] W →
  CallsIn F n P g (#[.func (.yield l) #[] #[]]++lb) W fun e B=>(∃ v,e=.returned v)∧((∃ xs,S xs∧J xs B)∨(∃ pre,Sp pre∧Jx pre B))
variable {F:Fence} {n:Nat} {P:Program}
theorem wpIn_rangeFunc_stepsX {α:Type} {g:Operand} {ps:Array Tmp} {assign body:Code} {Q:Exit→Act→World→Prop} {a:Act} {w:World}
 (hro:F.round=none) (h1:1≤n) {gf:Nat} {lb:Array Value} (hg:a.eval g=.func (.func gf) #[] lb) (hFg:F.fn gf) (eg:∀ args w,(callFunc gf args).run P w=.ok (.enter gf args) w)
 {encs:α→Array Value} {Kp Kx St:World→World→Prop} {Rdy:World→Prop} {Gv:α→World→Prop} {S Sp:List α→Prop} {N:Nat} (hseq:SeqGoX F (n - 1) P gf lb encs Kp Kx St Rdy Gv S Sp N)
 (hrdy:∀ o o',Rdy ((w.alloc o).alloc o')) (hSt:∀ (A B:World) (k:Nat) (o:Obj),St A B→A.heap[k]? = some o→o.isCells=false→o.isWalk=false→B.heap[k]? = some o)
 (hKt:∀ {A B C:World},Kp A B→Kp B C→Kp A C) (hKb:∀ (W:World) (l:Nat) (o o':Obj),w.heap.size≤l→W.heap[l]? = some o→o.isCells=false→o.isWalk=false→Kp W (W.putObj l o')) (hKx:∀ (A U X:World) (l:Nat) (o o':Obj),Kp A U→Kx U X→w.heap.size≤l→X.heap[l]? = some o→o.isCells=false→o.isWalk=false→Kx A (X.putObj l o')) (hGv:∀ (x:α) (W:World) (l:Nat) (o o':Obj),Gv x W→w.heap.size≤l→W.heap[l]? = some o→o.isCells=false→Gv x (W.putObj l o')) (hps:∀ x,(encs x).size=ps.size)
 (I:List α→World→Prop) (Ix:Code→List α→World→Prop) (hI:OwnFrom w.heap.size I) (hIs:∀ s A B,I s A→St A B→I s B) (hIx:∀ c,OwnFrom w.heap.size (Ix c)) (hIxs:∀ c s A B,Ix c s A→St A B→Ix c s B) (h0:I [] w) (a₁:α→Act)
 (hassign:∀ (l:Nat) (x:α) (W:World) (K:Act→World→Prop),K (a₁ x) W →
  assign.wpIn (F.inRound l) (n - 1 - 1) P (Exit.then K (fun _ _ _=>False)) { tmps:=(ps.zip (encs x)).foldl (fun t (p,v)=>t.setIfInBounds p v) a.tmps,defers:=[] } W)
 (hbody:∀ (l:Nat) (pre:List α) (x:α) (W:World),I pre W→Gv x W→pre.length<N→body.wpIn (F.inRound l) (n - 1 - 1) P (ownPostK Kp I (fun c s X=>Ix c s X∧Kx W X) (pre++[x]) W) (a₁ x) W)
 (hdone:∀ (D:Nat) (xs:List α) (W:World),w.heap.size≤D→S xs→I xs W→W.heap[D]? = some (.deferred (some []))→Q .normal { a with defers:={ target:=.collected D,args:=#[] }::a.defers } W)
 (hstop:∀ (D:Nat) (c:Code) (pre:List α) (W:World),w.heap.size≤D→Sp pre→Ix c pre W→W.heap[D]? = some (.deferred (some []))→c.wpIn F n P Q { a with defers:={ target:=.collected D,args:=#[] }::a.defers } W) :
 (Code.rangeFunc g ps assign body).wpIn F n P Q a w:=by
 refine wpIn_rangeFunc fun fn hfn=>?_
 rw [hro]
 let rc:LoopState→Option Code→Loop:=fun st pe=>{ state:=st,pending:=pe,fn,tmps:=a.tmps,params:=ps,assign,body,defers:=w.heap.size }
 have hlen:(w.alloc (.deferred (some []))).heap.size=w.heap.size+1:=by simp
 obtain ⟨V,hV⟩:∃ V,(w.alloc (.deferred (some []))).alloc (.loop (rc .ready none))=V:=⟨_,rfl⟩
 have hVr:V.heap[w.heap.size+1]? = some (.loop (rc .ready none)):=by
  rw [←hV]
  have:=World.alloc_heap_new (w.alloc (.deferred (some []))) (.loop (rc .ready none))
  rwa [hlen] at this
 have hVd:V.heap[w.heap.size]? = some (.deferred (some [])):=by
  rw [←hV]
  exact (Below.heap_alloc _ _ _ (by omega)).trans (World.alloc_heap_new w _)
 have hVI:I [] V:=by rw [←hV]; exact hI.alloc _ (hI.alloc _ h0)
 have hVR:Rdy V:=by rw [←hV]; exact hrdy _ _
 refine ⟨w.heap.size+1,[{ target:=.collected w.heap.size,args:=#[] }],V,{ target:=.fn (.func gf) lb,args:=#[.func (.yield (w.heap.size+1)) #[] #[]] },V,gf,#[.func (.yield (w.heap.size+1)) #[] #[]]++lb,V,?_,?_,?_,?_,fun _=>h1,?_⟩
 · rw [←hV]; exact run_enterLoop_outer _ _ _ _ _
 · simp only [resolve,hg]; simp [go_sem]
 · intro f' hf'; simp [Target.leads] at hf'; subst hf'; exact hFg
 · simp [invoke,go_sem,eg]
 · refine (hseq (w.heap.size+1)
    (fun pre W=>I pre W∧W.heap[w.heap.size+1]? = some (.loop (rc .ready none))∧W.heap[w.heap.size]? = some (.deferred (some [])))
    (fun pre W=>∃ c,Ix c pre W∧W.heap[w.heap.size+1]? = some (.loop (rc .done (some c)))∧W.heap[w.heap.size]? = some (.deferred (some [])))
    V hVR (fun s A B h hs=>⟨hIs s A B h.1 hs,hSt A B _ _ hs h.2.1 rfl rfl,hSt A B _ _ hs h.2.2 rfl rfl⟩)
    (fun s A B ⟨c,hc,hl,hk⟩ hs=>⟨c,hIxs c s A B hc hs,hSt A B _ _ hs hl rfl rfl,hSt A B _ _ hs hk rfl rfl⟩) ?_ ⟨hVI,hVr,hVd⟩).mono ?_
   · rintro pre x W ⟨hi,hl,hk⟩ hg hN
     have hlt:w.heap.size+1<W.heap.size:=(Array.getElem?_eq_some_iff.1 hl).1
     have hy:=run_yield (P:=P) (args:=encs x) hl (hps x)
     refine ⟨fn,_,assign,body,hy,roundIn_of_wpIn hfn (hassign _ x W _ ⟨_,run_beginRound hl rfl,?_⟩)⟩
     obtain ⟨U,hU⟩:∃ U,W.putObj (w.heap.size+1) (.loop { rc .ready none with state:=.busy })=U:=⟨_,rfl⟩
     have hUl:U.heap[w.heap.size+1]? = some (.loop { rc .ready none with state:=.busy }):=by rw [←hU]; exact World.putObj_heap_same hlt
     have hUd:U.heap[w.heap.size]? = some (.deferred (some [])):=by rw [←hU]; exact (World.putObj_heap_other (by omega)).trans hk
     have hUK:Kp W U:=by rw [←hU]; exact hKb _ _ _ _ (by omega) hl rfl rfl
     have hUI:I pre U:=by rw [←hU]; exact hI.putObj _ hi (by omega) hl rfl
     rw [hU]
     have hUG:Gv x U:=by rw [←hU]; exact hGv x W _ _ _ hg (by omega) hl rfl
     refine wpIn_mono (hbody _ pre x U hUI hUG hN) ?_
     have fin:∀ (jump:Option Code) (X:World),KeepsOthers U X →
      (Instr.endRound (w.heap.size+1) jump).run P X=.ok (.bool jump.isNone) (X.putObj (w.heap.size+1) (.loop (rc (if jump.isNone then .ready else .done) jump))) ∧
      X.heap[w.heap.size+1]? = some (.loop { rc .ready none with state:=.busy }) ∧
      (X.putObj (w.heap.size+1) (.loop (rc (if jump.isNone then .ready else .done) jump))).heap[w.heap.size+1]? = some (.loop (rc (if jump.isNone then .ready else .done) jump)) ∧
      (X.putObj (w.heap.size+1) (.loop (rc (if jump.isNone then .ready else .done) jump))).heap[w.heap.size]? = some (.deferred (some [])):=fun jump X hX=>by
      have hXl:=hX.same _ _ hUl rfl
      exact ⟨run_endRound (P:=P) jump hXl,hXl,World.putObj_heap_same (Array.getElem?_eq_some_iff.1 hXl).1,(World.putObj_heap_other (by omega)).trans (hX.same _ _ hUd rfl)⟩
     rintro e a3 X hp
     cases e with
     | normal =>
       obtain ⟨p1,p2,p3⟩:=hp
       obtain ⟨r1,r2,r3,r4⟩:=fin none X p1
       exact ⟨_,_,r1,.inl ⟨rfl,⟨hI.putObj _ p3 (by omega) r2 rfl,r3,r4⟩,hKt (hKt hUK p2) (hKb _ _ _ _ (by omega) r2 rfl rfl)⟩⟩
     | ret =>
       obtain ⟨p1,p3⟩:=hp
       obtain ⟨r1,r2,r3,r4⟩:=fin (some .ret) X p1
       exact ⟨_,_,r1,.inr ⟨rfl,⟨.ret,(hIx _).putObj _ p3.1 (by omega) r2 rfl,r3,r4⟩,hKx _ _ _ _ _ _ hUK p3.2 (by omega) r2 rfl rfl⟩⟩
     | exit id =>
       obtain ⟨p1,p3⟩:=hp
       obtain ⟨r1,r2,r3,r4⟩:=fin (some (.exit id)) X p1
       exact ⟨_,_,r1,.inr ⟨rfl,⟨.exit id,(hIx _).putObj _ p3.1 (by omega) r2 rfl,r3,r4⟩,hKx _ _ _ _ _ _ hUK p3.2 (by omega) r2 rfl rfl⟩⟩
     | goto t =>
       obtain ⟨p1,p3⟩:=hp
       obtain ⟨r1,r2,r3,r4⟩:=fin (some (.goto t)) X p1
       exact ⟨_,_,r1,.inr ⟨rfl,⟨.goto t,(hIx _).putObj _ p3.1 (by omega) r2 rfl,r3,r4⟩,hKx _ _ _ _ _ _ hUK p3.2 (by omega) r2 rfl rfl⟩⟩
     | panic ch=>exact hp.elim
     | outgrown=>exact hp.elim
   · rintro e X ⟨⟨v,rfl⟩,(⟨xs,hS,hi,hl,hk⟩ | ⟨pre,hSp,c,hi,hl,hk⟩)⟩
     · exact ⟨none,_,run_endLoop (P:=P) hl (by simp [rc]),hdone _ xs _ (Nat.le_refl _) hS (hI.putObj _ hi (by omega) hl rfl) ((World.putObj_heap_other (by omega)).trans hk)⟩
     · exact ⟨some c,_,run_endLoop (P:=P) hl (by simp [rc]),hstop _ c pre _ (Nat.le_refl _) hSp ((hIx c).putObj _ hi (by omega) hl rfl) ((World.putObj_heap_other (by omega)).trans hk)⟩
end Go.Proofs.YtkldoojonnkfgaaGreatDoor
namespace Go.Proofs.YtkldoojonnkfgaaGreatDoor
open Go.RowKit Go.Sort Go.Shelf
attribute [local go_sem] Oper.semAt_some
structure VB (by_ bo bv lp:Nat) (op:List UInt8) (W:World):Prop where
 y:W.heap[by_]? = some (.cells #[.func (.yield lp) #[] #[]] 191 (0,0))
 o:W.heap[bo]? = some (.cells #[.string ⟨op.toArray⟩] 9 (0,0))
 v:W.heap[bv]? = some (.cells #[.func (.func 109) #[] #[.pointer (some ⟨by_,0,none⟩),.pointer (some ⟨bo,0,none⟩),.pointer (some ⟨bv,0,none⟩)]] 192 (0,0))
theorem VB.keep {by_ bo bv lp:Nat} {op:List UInt8} {A B:World} (h:VB by_ bo bv lp op A) (hk:KeepC 0 A B):VB by_ bo bv lp op B :=
 ⟨hk.2 _ _ (Nat.zero_le _) h.y rfl,hk.2 _ _ (Nat.zero_le _) h.o rfl,hk.2 _ _ (Nat.zero_le _) h.v rfl⟩
theorem VB.keepB {by_ bo bv lp b:Nat} {op:List UInt8} {A B:World} (h:VB by_ bo bv lp op A) (hk:KeepC b A B) (h1:b≤by_) (h2:b≤bo) (h3:b≤bv):VB by_ bo bv lp op B :=
 ⟨hk.2 _ _ h1 h.y rfl,hk.2 _ _ h2 h.o rfl,hk.2 _ _ h3 h.v rfl⟩
theorem VB.cells {by_ bo bv lp:Nat} {op:List UInt8} {W:World} (h:VB by_ bo bv lp op W):W.cell? ⟨by_,0,none⟩=some (.func (.yield lp) #[] #[])∧W.cell? ⟨bo,0,none⟩=some (.string ⟨op.toArray⟩)∧W.cell? ⟨bv,0,none⟩=some (.func (.func 109) #[] #[.pointer (some ⟨by_,0,none⟩),.pointer (some ⟨bo,0,none⟩),.pointer (some ⟨bv,0,none⟩)]) :=
 ⟨by rw [blk_cell h.y]; rfl,by rw [blk_cell h.o]; rfl,by rw [blk_cell h.v]; rfl⟩
def chF (op:List UInt8) (rest:List Ar) (done:List Op3) (o:Op3):List (List Op3):=(choicesP op rest).map ((done++[o])++·)
theorem ch_cons (op:List UInt8) (x:Ar) (rest:List Ar) (done:List Op3):(choicesP op (x::rest)).map (done++·)=(shapesP op x).flatMap (chF op rest done):=by
 show ((shapesP op x).flatMap fun o=>(choicesP op rest).map (o::·)).map (done++·)=_
 rw [List.map_flatMap]
 congr 1
 funext o
 unfold chF
 rw [List.map_map]
 apply List.map_congr_left
 intro c _
 simp
theorem take_flat {L:List Op3} {j:Nat} {o:Op3} (h:L[j]? = some o) (f:Op3→List (List Op3)):(L.take (j+1)).flatMap f=(L.take j).flatMap f++f o:=by
 rw [List.take_add_one,h]
 simp
theorem flat_pre {L:List Op3} {j:Nat} {o:Op3} (h:L[j]? = some o) (f:Op3→List (List Op3)) {p:List (List Op3)} (hp:p <+: f o):(L.take j).flatMap f++p <+: L.flatMap f:=by
 obtain ⟨q,hq⟩:=hp
 have hl:L=L.take (j+1)++L.drop (j+1):=(List.take_append_drop _ _).symm
 refine ⟨q++(L.drop (j+1)).flatMap f,?_⟩
 conv=>rhs; rw [hl,List.flatMap_append,take_flat h,←hq]
 simp
theorem flat_le {L:List Op3} {j:Nat} {o:Op3} (h:L[j]? = some o) (f:Op3→List (List Op3)):((L.take j).flatMap f).length+(f o).length≤(L.flatMap f).length:=by
 obtain ⟨q,hq⟩:=flat_pre h f (List.prefix_refl (f o))
 have:=congrArg List.length hq
 simp only [List.length_append] at this
 omega
def VRes (b:Nat) (J Jx:List (List Op3 × Value)→World→Prop) (pre:List (List Op3 × Value)) (T:List (List Op3)) (W:World) (e:Ending) (B:World):Prop :=
 ∃ r:Bool,e=.returned (.bool r)∧KeepC b W B∧(r=true→∃ ys,ys.map Prod.fst=T∧J (pre++ys) B∧KeepC 0 W B)∧(r=false→∃ ys,ys.map Prod.fst <+: T∧Jx (pre++ys) B)
theorem keepC_mono {b b':Nat} {A B:World} (h:KeepC b A B) (hb:b≤b'):KeepC b' A B:=⟨h.1,fun k o hk=>h.2 k o (Nat.le_trans hb hk)⟩
theorem opc_snoc (l:List Op3) (a b c:Int):opc (l++[(a,b,c)])=opc l++[.int .i64 a,.int .i64 b,.int .i64 c]:=by simp [opc]
theorem src3c {w:World} {g:Nat} {x y z:Value} {T:TypeId} (h:w.heap[g]? = some (.cells #[x,y,z] T (0,0))):∀ (j:Nat) (u:Value),[x,y,z][j]? = some u→w.cell? ((⟨g,0,none⟩:Addr).add j)=some u:=by
 intro j u hj
 rw [addr_add,Nat.zero_add,blk_cell h]
 simpa using hj
theorem blk_new2 (w:World) (o1 o2:Obj):((w.alloc o1).alloc o2).heap[w.heap.size+1]? = some o2:=by
 have:=blk_new (w.alloc o1) o2
 rwa [World.size_alloc] at this
theorem arc_cells {W:World} {v:Value} {x:Ar × Option Addr} {l:List (Ar × Option Addr)} (h:Row W v (x::l).length (arc (x::l))) :
 ∃ g o c,v=.slice (some ⟨g,o,none⟩) (l.length+1) c∧l.length+1≤c∧g<W.heap.size∧W.cell? ⟨g,o,none⟩=some (.int .i64 x.1.kind)∧W.cell? ⟨g,o+1,none⟩=some (.string x.1.text)∧W.cell? ⟨g,o+2,none⟩=some (.pointer x.2) ∧
  (c=l.length+1→l=[]→Row W (.slice (some ⟨g,o,none⟩) 0 0) l.length (arc l))∧Row W (.slice (some ⟨g,o+3,none⟩) l.length (c - 1)) l.length (arc l):=by
 obtain ⟨a,c,rfl,hc,hh⟩:=h
 obtain ⟨g,o,rfl,hg,hcs⟩:=hh (by simp [arc])
 rw [List.length_cons] at hc
 have he:arc (x::l)=[.int .i64 x.1.kind,.string x.1.text,.pointer x.2]++arc l:=rfl
 have k0:=hcs 0 (by rw [he]; simp)
 have k1:=hcs 1 (by rw [he]; simp)
 have k2:=hcs 2 (by rw [he]; simp)
 rw [he] at k0 k1 k2
 refine ⟨g,o,c,rfl,hc,hg,k0,k1,k2,?_,?_⟩
 · intro _ hl
   subst hl
   exact ⟨_,_,rfl,Nat.le_refl _,fun h=>absurd rfl h⟩
 · refine ⟨_,_,rfl,by omega,fun _=>⟨g,o+3,rfl,hg,fun j hj=>?_⟩⟩
   have:=hcs (3+j) (by rw [he]; simp only [List.length_append,List.length_cons,List.length_nil]; omega)
   rw [he,List.getElem?_append_right (by simp)] at this
   rw [show o+3+j=o+(3+j) by omega,this]
   congr 1
   simp
theorem shapes_len (op:List UInt8) (a:Ar):(shapesP op a).length≤45:=by
 unfold shapesP
 split
 · exact namedO_len _
 · split
   · split<;>simp
   · split
     · simp
     · split
       · split<;>simp
       · split<;>simp
end Go.Proofs.YtkldoojonnkfgaaGreatDoor
namespace Go.Proofs.YtkldoojonnkfgaaGreatDoor
open Go.RowKit Go.Sort Go.Shelf
attribute [local go_sem] Oper.semAt_some
set_option maxRecDepth 100000 in
set_option maxHeartbeats 20000000 in
theorem visit_last (op:List UInt8) (lp m bk by_ bo bv N:Nat) (hk1:bk≤by_) (hk2:bk≤bo) (hk3:bk≤bv) (J Jx:List (List Op3 × Value)→World→Prop)
 (hJ:∀ s A B,J s A→Below A.heap.size A B→J s B) (_hJx:∀ s A B,Jx s A→Below A.heap.size A B→Jx s B)
 (_hY:∀ pre x A,J pre A→Row A x.2 x.1.length (opc x.1)∧x.1.length≤900→pre.length<N→YieldAt Fence.wide m Tryz.prog lp #[x.2] A fun e B=>(e=.returned (.bool true)∧J (pre++[x]) B∧KeepC 0 A B)∨(e=.returned (.bool false)∧Jx (pre++[x]) B∧KeepC bk A B))
 (rest:List (Ar × Option Addr)) (ih:∀ (done:List Op3) (vd vr:Value) (pre:List (List Op3 × Value)) (W:World),VB by_ bo bv lp op W→Row W vd done.length (opc done)→Row W vr rest.length (arc rest)→(∀ y∈rest,y.1.text.size≤1000000)→done.length+rest.length≤900→J pre W→pre.length+(choicesP op (rest.map Prod.fst)).length≤N →
  Calls Tryz.prog 109 #[vd,vr,.pointer (some ⟨by_,0,none⟩),.pointer (some ⟨bo,0,none⟩),.pointer (some ⟨bv,0,none⟩)] W (VRes bk J Jx pre ((choicesP op (rest.map Prod.fst)).map (done++·)) W))
 (x:Ar × Option Addr) (done:List Op3) (vd:Value) (a0:Option Addr) (n0 c:Nat) (pre:List (List Op3 × Value)) (W:World) (hc1:c=1) (hV:VB by_ bo bv lp op W) (hD:Row W vd done.length (opc done)) (hR:Row W (.slice a0 n0 c) (x::rest).length (arc (x::rest))) (hS:∀ y∈x::rest,y.1.text.size≤1000000) (hlen:done.length+(x::rest).length≤900) (h0:J pre W) (hN:pre.length+(choicesP op ((x::rest).map Prod.fst)).length≤N) :
  Calls Tryz.prog 109 #[vd,.slice a0 n0 c,.pointer (some ⟨by_,0,none⟩),.pointer (some ⟨bo,0,none⟩),.pointer (some ⟨bv,0,none⟩)] W (VRes bk J Jx pre ((choicesP op ((x::rest).map Prod.fst)).map (done++·)) W):=by
 obtain ⟨i0,hi,hz0,hz1,hz2⟩:=info_parts Tryz.infoOperand
 rw [List.map_cons] at hN ⊢
 rw [ch_cons]
 have hcl:(choicesP op (x.1::rest.map Prod.fst)).length=((shapesP op x.1).flatMap (chF op (rest.map Prod.fst) done)).length:=by rw [←ch_cons,List.length_map]
 rw [hcl] at hN
 have hsh:=fun X=>shapes_any op x.1 x.2 X (hS x List.mem_cons_self)
 have hS2:∀ y∈rest,y.1.text.size≤1000000:=fun y hy=>hS y (List.mem_cons_of_mem _ hy)
 have hLl:=shapes_len op x.1
 obtain ⟨L,hL⟩:∃ L,shapesP op x.1=L:=⟨_,rfl⟩
 rw [hL] at hsh hN hLl ⊢
 unfold ShRes at hsh
 obtain ⟨F,hF⟩:∃ F,chF op (rest.map Prod.fst) done=F:=⟨_,rfl⟩
 rw [hF] at hN ⊢
 have hFo:∀ o,(choicesP op (rest.map Prod.fst)).map ((done++[o])++·)=F o:=fun o=>by rw [←hF]; rfl
 have hFl:∀ o,(choicesP op (rest.map Prod.fst)).length=(F o).length:=fun o=>by rw [←hFo,List.length_map]
 obtain ⟨g,o0,c',hcv,hcap,hg,k0,k1,k2,hrs0,hrs1⟩:=arc_cells hR
 cases hcv
 rw [List.length_cons] at hlen
 obtain ⟨c0,c1,c2⟩:=hV.cells
 have HV:=Hh hV; have HD:=Hh hD; have HSH:=Hh hsh; have HN:=Hh hN
 have HIH:=Hh ih; have HFO:=Hh hFo; have HFL:=Hh hFl; have HJ:=Hh hJ; have H0:=Hh h0; have HS2:=Hh hS2
 obtain ⟨ad,cd,rfl⟩:∃ ad cd,vd=.slice ad done.length cd:=by obtain ⟨a,c,h,_⟩:=HD.out; exact ⟨a,c,h⟩
 clear hV hD hR hS hsh hN ih hFo hFl hJ _hJx _hY h0 hS2 hcl hL hF
 have hcc:((rest.length:Int)+1)≤(c:Int):=by omega
 have hbo:=blk_lt HV.out.o
 obtain ⟨⟨kd,tx,ex⟩,px⟩:=x
 dsimp only at k0 k1 k2 HSH
 refine (callsIn_wide (n:=m+1)).1 ?_
 refine callsIn_of_wp Tryz.func109 rfl trivial ?_ rfl
 simp only [Tryz.ntmps109,List.size_toArray,List.length_cons,List.length_nil,Nat.reduceAdd,Nat.reduceSub,Array.replicate_succ,Array.replicate_zero,List.push_toArray,List.append_toArray,List.nil_append,List.cons_append]
 refine wpIn_wide.2 ?_
 go_wp2_with fail
 have hdr:Below W.heap.size W W.drew:=bl
 go_region_held3 (fun w'=>w'.cell? ⟨bo,0,none⟩=some (.string ⟨op.toArray⟩)∧w'.cell? ⟨g,o0,none⟩=some (.int .i64 kd)∧w'.cell? ⟨g,o0+1,none⟩=some (.string tx)∧w'.cell? ⟨g,o0+2,none⟩=some (.pointer px)) (first | exact ⟨c1,k0,k1,k2⟩ | exact K4) (first | ((with_reducible refine (HSH.out _).mono ?_); rintro e w4 ⟨v4,rfl,hr4,hb4⟩; have hbw4:Below W.heap.size W w4:=hdr.trans hb4; have K4:w4.cell? ⟨bo,0,none⟩=some (.string ⟨op.toArray⟩)∧w4.cell? ⟨g,o0,none⟩=some (.int .i64 kd)∧w4.cell? ⟨g,o0+1,none⟩=some (.string tx)∧w4.cell? ⟨g,o0+2,none⟩=some (.pointer px):=⟨(hbw4.cell (p:=⟨bo,0,none⟩) hbo).trans c1,(hbw4.cell (p:=⟨g,o0,none⟩) hg).trans k0,(hbw4.cell (p:=⟨g,o0+1,none⟩) hg).trans k1,(hbw4.cell (p:=⟨g,o0+2,none⟩) hg).trans k2⟩; obtain ⟨aL,cL,rfl,hcL,_⟩:=id hr4))
 have hkw4:=keepC_below hbw4 (b:=0)
 have HV4:=Hh (HV.out.keep hkw4)
 have HD4:=Hh (HD.out.below hbw4)
 have HRL:=Hh hr4
 have HK4:=Hh hkw4
 have HJ4:=Hh (HJ.out _ _ _ H0.out hbw4)
 have hcL2:(L.length:Int)≤(cL:Int):=by omega
 have HBO:=Hh (show bk≤w4.heap.size by have:=hkw4.1; omega)
 have hr0:rest=[]:=List.length_eq_zero_iff.1 (by omega)
 have HRS:=Hh ((hrs0 (by omega) hr0).below hbw4)
 clear hrs0 hrs1 hr4 hb4 hbw4 K4 hkw4 hdr k0 k1 k2 c0 c1 c2
 subst hc1
 go_wp2_with fail
 go_loopw [7,9,22] (fun _ bx i wr=>∃ (j:Nat) (ys:List (List Op3 × Value)),j≤L.length∧i=.int .i64 j∧Hid (ys.map Prod.fst=(L.take j).flatMap F∧J (pre++ys) wr∧KeepC 0 w4 wr)) (fun _ _ i _=>L.length - (intOf i).toNat)
 case atStart=>exact ⟨0,[],Nat.zero_le _,rfl,Hh ⟨rfl,by rw [List.append_nil]; exact HJ4.out,⟨Nat.le_refl _,fun _ _ _ h _=>h⟩⟩⟩
 case round =>
  obtain ⟨j,ys,hj,rfl,HD2⟩:=hrel
  by_cases hlt:j<L.length
  · obtain ⟨o,ho⟩:∃ o,L[j]? = some o:=⟨_,List.getElem?_eq_getElem hlt⟩
    obtain ⟨hys,hjw,hkw⟩:=HD2.out
    obtain ⟨aX,cX,hvX,hcX,hx⟩:=(HRL.out.keepC hkw).op
    cases hvX
    obtain ⟨gL,oL,rfl,hgL,hcs⟩:=hx (by rintro rfl; exact absurd hlt (Nat.not_lt_zero _))
    obtain ⟨l0,l1,l2⟩:=hcs j o ho
    have HTK:=Hh (take_flat ho F)
    have HPRE:=Hh (fun p hp=>flat_pre ho F (p:=p) hp)
    have hle:=flat_le ho F
    have hyl:ys.length=((L.take j).flatMap F).length:=by rw [←hys,List.length_map]
    have HLE:=Hh (show pre.length+ys.length+(F o).length≤N by have:=HN.out; omega)
    have hi0:(0:Int)≤(j:Int):=by omega
    have hi1:(j:Int)<(L.length:Int):=by omega
    obtain ⟨oa,ob,oc⟩:=o
    dsimp only at l0 l1 l2
    clear hcs hx hle hyl ho
    go_wp2_with fail
    obtain ⟨X,hX⟩:∃ X,wr.alloc (.cells #[.int .i64 oa,.int .i64 ob,.int .i64 oc] 172)=X:=⟨_,rfl⟩
    rw [hX]
    have hal:Below wr.heap.size wr X:=by rw [←hX]; exact (Below.refl _ _).alloc (Nat.le_refl _) _
    have hbk:X.heap[wr.heap.size]? = some (.cells #[.int .i64 oa,.int .i64 ob,.int .i64 oc] 172 (0,0)):=by rw [←hX]; exact blk_new _ _
    have hkX:KeepC 0 w4 X:=keepC_t hkw (keepC_below hal)
    have hbb:bk≤wr.heap.size:=by have:=hkw.1; have:=HBO.out; omega
    obtain ⟨B,hB⟩:∃ B,wr.heap.size=B:=⟨_,rfl⟩
    rw [hB] at hbk hbb ⊢
    have HBB:=Hh hbb
    have hvx:=HV4.out.keep hkX
    obtain ⟨_,_,n0⟩:=hvx.cells
    obtain ⟨m0,m1,m2,_,_,_⟩:=cells3 hbk
    have hb1:=blk_lt hvx.v
    have hb2:=blk_lt hbk
    have hcells:∀ Y,Below X.heap.size X Y→Y.cell? ⟨bv,0,none⟩=some (.func (.func 109) #[] #[.pointer (some ⟨by_,0,none⟩),.pointer (some ⟨bo,0,none⟩),.pointer (some ⟨bv,0,none⟩)])∧Y.cell? ⟨B,0,none⟩=some (.int .i64 oa)∧Y.cell? ⟨B,1,none⟩=some (.int .i64 ob)∧Y.cell? ⟨B,2,none⟩=some (.int .i64 oc):=fun Y hb=>⟨(hb.cell (p:=⟨bv,0,none⟩) hb1).trans n0,(hb.cell (p:=⟨B,0,none⟩) hb2).trans m0,(hb.cell (p:=⟨B,1,none⟩) hb2).trans m1,(hb.cell (p:=⟨B,2,none⟩) hb2).trans m2⟩
    have HCF:=Hh hcells
    have hcK:∀ Y Z,Below X.heap.size X Y→KeepC bk Y Z→Z.cell? ⟨bv,0,none⟩=some (.func (.func 109) #[] #[.pointer (some ⟨by_,0,none⟩),.pointer (some ⟨bo,0,none⟩),.pointer (some ⟨bv,0,none⟩)])∧Z.cell? ⟨B,0,none⟩=some (.int .i64 oa)∧Z.cell? ⟨B,1,none⟩=some (.int .i64 ob)∧Z.cell? ⟨B,2,none⟩=some (.int .i64 oc):=fun Y Z hb hk=>by
     obtain ⟨_,_,z0⟩:=((hvx.keep (keepC_below hb)).keepB hk hk1 hk2 hk3).cells
     obtain ⟨y0,y1,y2,_,_,_⟩:=cells3 (hk.2 _ _ (by have:=HBB.out; omega) (blk_below hbk hb hb2) rfl)
     exact ⟨z0,y0,y1,y2⟩
    have HCK:=Hh hcK
    have hdX:=HD4.out.keepC hkX
    have hcl:∀ Y,Below X.heap.size X Y→Calls Tryz.prog 90 #[.slice ad done.length cd] Y fun e w'=>∃ v',e=.returned v'∧w'.ownsRow X.heap.size 172 3 v' done.length (opc done)∧Below X.heap.size X w'∧Below Y.heap.size Y w':=fun Y hb=>(clone_any _ done Y (hdX.below hb) (by omega)).mono fun e w' ⟨v',h1,h2,h3⟩=>⟨v',h1,owns_mono h2 hb.size,hb.trans (h3.mono hb.size),h3⟩
    have HCL:=Hh hcl
    have hrX:=HRS.out.keepC hkX
    have hjX:=HJ.out _ _ _ hjw hal
    have hvis:∀ Y v,Below X.heap.size X Y→Row Y v (done.length+1) (opc done++[.int .i64 oa,.int .i64 ob,.int .i64 oc])→Calls Tryz.prog 109 #[v,.slice (some ⟨g,o0,none⟩) 0 0,.pointer (some ⟨by_,0,none⟩),.pointer (some ⟨bo,0,none⟩),.pointer (some ⟨bv,0,none⟩)] Y (VRes bk J Jx (pre++ys) (F (oa,ob,oc)) Y):=fun Y v hb hrv=>by
     have h:=HIH.out (done++[(oa,ob,oc)]) v (.slice (some ⟨g,o0,none⟩) 0 0) (pre++ys) Y (hvx.keep (keepC_below hb)) (by rw [List.length_append,opc_snoc]; exact hrv) (hrX.below hb) HS2.out (by rw [List.length_append,List.length_singleton]; omega) (HJ.out _ _ _ hjX hb) (by rw [List.length_append,HFL.out (oa,ob,oc)]; have:=HLE.out; omega)
     rw [HFO.out] at h
     exact h
    have HVIS:=Hh hvis
    have hkwX:Hid (KeepC 0 w4 X):=Hh hkX
    have HYS:=Hh hys
    clear hX hal hbk hkX hvx hcells hdX hcl hrX hjX hvis hjw hkw hys l0 l1 l2 HD2 hbb hcK n0 m0 m1 m2 hb1 hb2
    go_region_held3 (fun w'=>w'.cell? ⟨bv,0,none⟩=some (.func (.func 109) #[] #[.pointer (some ⟨by_,0,none⟩),.pointer (some ⟨bo,0,none⟩),.pointer (some ⟨bv,0,none⟩)])∧w'.cell? ⟨B,0,none⟩=some (.int .i64 oa)∧w'.cell? ⟨B,1,none⟩=some (.int .i64 ob)∧w'.cell? ⟨B,2,none⟩=some (.int .i64 oc)) (first | exact K7 | exact HCF.out _ hb6 | exact HCF.out _ hb5 | exact HCF.out _ (hb5.trans (Below.mono (show Below w5.heap.size w5 _ from bl) hb5.size)) | exact HCF.out _ (bl)) (first
     | ((with_reducible refine (HCL.out _ (bl)).mono ?_); rintro e w5 ⟨v5,rfl,hown5,hb5,hb5y⟩; obtain ⟨a5,c5,rfl⟩:=owns_slice hown5)
     | ((
        refine step_append_at (by rfl) _ _ 22 (by rfl) X.heap.size 172 i0 (.agg #[.int .i64 0,.int .i64 0,.int .i64 0]) 3 24 Tryz.underlying22 hi hz0 hz1 hz2 rfl (by decide) (.slice a5 done.length c5) done.length (opc done) ?_ ?_ ⟨w5.heap.size,0,none⟩ 1 1 [.int .i64 oa,.int .i64 ob,.int .i64 oc] ?_ (by rfl) ?_ ?_ (by unfold maxLen; omega) (by omega) ?_ ?_
        · rfl
        · exact owns_below' hown5 (bl)
        · rfl
        · exact src3c (blk_new _ _)
        · intro u hu; simp at hu; rcases hu with rfl | rfl | rfl<;>rfl
        · exact Nat.le_trans hb5.size (Below.size (show Below w5.heap.size w5 _ from bl))
        intro v6 w6 hown6 hgrow6 _
        obtain ⟨a6,c6,rfl⟩:=owns_slice hown6
        have hb6:Below X.heap.size X w6:=(hb5.trans (Below.mono (show Below w5.heap.size w5 _ from bl) hb5.size)).grown hgrow6 (Nat.le_trans hb5.size (Below.size (show Below w5.heap.size w5 _ from bl))) (fun k hk=>(hown5.lt k hk).1)))
     | ((
        refine step_append_at (by rfl) _ _ 22 (by rfl) X.heap.size 172 i0 (.agg #[.int .i64 0,.int .i64 0,.int .i64 0]) 3 24 Tryz.underlying22 hi hz0 hz1 hz2 rfl (by decide) (.slice a5 done.length c5) done.length (opc done) ?_ ?_ ⟨X.heap.size,0,none⟩ 1 1 [.int .i64 oa,.int .i64 ob,.int .i64 oc] ?_ (by rfl) ?_ ?_ (by unfold maxLen; omega) (by omega) ?_ ?_
        · rfl
        · exact owns_below' hown5 (bl)
        · rfl
        · first | exact src3c (blk_below (blk_new _ _) hb5y (by simp)) | exact src3c (blk_below (blk_drew (blk_new _ _)) hb5y (by simp)) | exact src3c (blk_below (blk_new X.drew _) hb5y (by simp))
        · intro u hu; simp at hu; rcases hu with rfl | rfl | rfl<;>rfl
        · exact Nat.le_trans hb5.size (Below.size (show Below w5.heap.size w5 _ from bl))
        intro v6 w6 hown6 hgrow6 _
        obtain ⟨a6,c6,rfl⟩:=owns_slice hown6
        have hb6:Below X.heap.size X w6:=(hb5.trans (Below.mono (show Below w5.heap.size w5 _ from bl) hb5.size)).grown hgrow6 (Nat.le_trans hb5.size (Below.size (show Below w5.heap.size w5 _ from bl))) (fun k hk=>(hown5.lt k hk).1)))
     | ((with_reducible refine (HVIS.out _ _ hb6 (WRow.of_owns hown6).row).mono ?_); rintro e w7 ⟨r,rfl,hk7,hT,hF⟩; have K7:=HCK.out w6 w7 hb6 hk7))
    all_goals
     have HT:=Hh hT
     have HF:=Hh hF
     have HB6:=Hh hb6
     have HK7:=Hh (show KeepC bk W w7 from keepC_t (keepC_mono HK4.out (Nat.zero_le _)) (keepC_t (keepC_mono hkwX.out (Nat.zero_le _)) (keepC_t (keepC_below hb6) hk7)))
     clear hT hF K7 hk7 hown6 hgrow6 hb6 hown5 hb5 hb5y
     cases r with
     | false =>
       go_wp2_with fail
       refine bodyPost_ret (v:=.bool false) (by simp [results,Tryz.results109,go_sem]) rfl ?_
       obtain ⟨zs,q1,q2⟩:=(by first | exact HF.out rfl | exact HF.out trivial:∃ zs:List (List Op3 × Value),zs.map Prod.fst <+: F (oa,ob,oc)∧Jx (pre++ys++zs) w7)
       exact ⟨false,rfl,HK7.out,fun h=>(by cases h),fun _=>⟨ys++zs,by rw [List.map_append,HYS.out]; exact HPRE.out _ q1,by rw [←List.append_assoc]; exact q2⟩⟩
     | true =>
       go_wp2_with fail
       go_roundw
       case rel =>
        obtain ⟨zs,q1,q2,q3⟩:=(by first | exact HT.out rfl | exact HT.out trivial:∃ zs:List (List Op3 × Value),zs.map Prod.fst=F (oa,ob,oc)∧J (pre++ys++zs) w7∧KeepC 0 w6 w7)
        have hnew:Hid ((ys++zs).map Prod.fst=(L.take (j+1)).flatMap F∧J (pre++(ys++zs)) w7∧KeepC 0 w4 w7):=Hh ⟨by rw [List.map_append,HYS.out,q1,HTK.out],by rw [←List.append_assoc]; exact q2,keepC_t hkwX.out (keepC_t (keepC_below HB6.out) q3)⟩
        first
        | exact ⟨j+1,ys++zs,by omega,by go_num,hnew⟩
        | (refine ⟨_,_,_,⟨j+1,by omega,rfl,ys++zs,hnew⟩,rfl,rfl,?_⟩; go_num)
       case measure=>simp [intOf]; omega
  · obtain rfl:j=L.length:=by omega
    obtain ⟨hys,hjw,hkw⟩:=HD2.out
    rw [List.take_length] at hys
    go_wp2_with fail
    refine bodyPost_ret (v:=.bool true) (by simp [results,Tryz.results109,go_sem]) rfl ?_
    exact ⟨true,rfl,keepC_mono (keepC_t HK4.out hkw) (Nat.zero_le _),fun _=>⟨ys,hys,hjw,keepC_t HK4.out hkw⟩,fun h=>by cases h⟩
end Go.Proofs.YtkldoojonnkfgaaGreatDoor
namespace Go.Proofs.YtkldoojonnkfgaaGreatDoor
open Go.RowKit Go.Sort Go.Shelf
attribute [local go_sem] Oper.semAt_some
set_option maxRecDepth 100000 in
set_option maxHeartbeats 20000000 in
theorem visit_more (op:List UInt8) (lp m bk by_ bo bv N:Nat) (hk1:bk≤by_) (hk2:bk≤bo) (hk3:bk≤bv) (J Jx:List (List Op3 × Value)→World→Prop)
 (hJ:∀ s A B,J s A→Below A.heap.size A B→J s B) (_hJx:∀ s A B,Jx s A→Below A.heap.size A B→Jx s B)
 (_hY:∀ pre x A,J pre A→Row A x.2 x.1.length (opc x.1)∧x.1.length≤900→pre.length<N→YieldAt Fence.wide m Tryz.prog lp #[x.2] A fun e B=>(e=.returned (.bool true)∧J (pre++[x]) B∧KeepC 0 A B)∨(e=.returned (.bool false)∧Jx (pre++[x]) B∧KeepC bk A B))
 (rest:List (Ar × Option Addr)) (ih:∀ (done:List Op3) (vd vr:Value) (pre:List (List Op3 × Value)) (W:World),VB by_ bo bv lp op W→Row W vd done.length (opc done)→Row W vr rest.length (arc rest)→(∀ y∈rest,y.1.text.size≤1000000)→done.length+rest.length≤900→J pre W→pre.length+(choicesP op (rest.map Prod.fst)).length≤N →
  Calls Tryz.prog 109 #[vd,vr,.pointer (some ⟨by_,0,none⟩),.pointer (some ⟨bo,0,none⟩),.pointer (some ⟨bv,0,none⟩)] W (VRes bk J Jx pre ((choicesP op (rest.map Prod.fst)).map (done++·)) W))
 (x:Ar × Option Addr) (done:List Op3) (vd:Value) (a0:Option Addr) (n0 c:Nat) (pre:List (List Op3 × Value)) (W:World) (hc1:¬ c=1) (hV:VB by_ bo bv lp op W) (hD:Row W vd done.length (opc done)) (hR:Row W (.slice a0 n0 c) (x::rest).length (arc (x::rest))) (hS:∀ y∈x::rest,y.1.text.size≤1000000) (hlen:done.length+(x::rest).length≤900) (h0:J pre W) (hN:pre.length+(choicesP op ((x::rest).map Prod.fst)).length≤N) :
  Calls Tryz.prog 109 #[vd,.slice a0 n0 c,.pointer (some ⟨by_,0,none⟩),.pointer (some ⟨bo,0,none⟩),.pointer (some ⟨bv,0,none⟩)] W (VRes bk J Jx pre ((choicesP op ((x::rest).map Prod.fst)).map (done++·)) W):=by
 obtain ⟨i0,hi,hz0,hz1,hz2⟩:=info_parts Tryz.infoOperand
 rw [List.map_cons] at hN ⊢
 rw [ch_cons]
 have hcl:(choicesP op (x.1::rest.map Prod.fst)).length=((shapesP op x.1).flatMap (chF op (rest.map Prod.fst) done)).length:=by rw [←ch_cons,List.length_map]
 rw [hcl] at hN
 have hsh:=fun X=>shapes_any op x.1 x.2 X (hS x List.mem_cons_self)
 have hS2:∀ y∈rest,y.1.text.size≤1000000:=fun y hy=>hS y (List.mem_cons_of_mem _ hy)
 have hLl:=shapes_len op x.1
 obtain ⟨L,hL⟩:∃ L,shapesP op x.1=L:=⟨_,rfl⟩
 rw [hL] at hsh hN hLl ⊢
 unfold ShRes at hsh
 obtain ⟨F,hF⟩:∃ F,chF op (rest.map Prod.fst) done=F:=⟨_,rfl⟩
 rw [hF] at hN ⊢
 have hFo:∀ o,(choicesP op (rest.map Prod.fst)).map ((done++[o])++·)=F o:=fun o=>by rw [←hF]; rfl
 have hFl:∀ o,(choicesP op (rest.map Prod.fst)).length=(F o).length:=fun o=>by rw [←hFo,List.length_map]
 obtain ⟨g,o0,c',hcv,hcap,hg,k0,k1,k2,hrs0,hrs1⟩:=arc_cells hR
 cases hcv
 rw [List.length_cons] at hlen
 obtain ⟨c0,c1,c2⟩:=hV.cells
 have HV:=Hh hV; have HD:=Hh hD; have HSH:=Hh hsh; have HN:=Hh hN
 have HIH:=Hh ih; have HFO:=Hh hFo; have HFL:=Hh hFl; have HJ:=Hh hJ; have H0:=Hh h0; have HS2:=Hh hS2
 obtain ⟨ad,cd,rfl⟩:∃ ad cd,vd=.slice ad done.length cd:=by obtain ⟨a,c,h,_⟩:=HD.out; exact ⟨a,c,h⟩
 clear hV hD hR hS hsh hN ih hFo hFl hJ _hJx _hY h0 hS2 hcl hL hF
 have hcc:((rest.length:Int)+1)≤(c:Int):=by omega
 have hbo:=blk_lt HV.out.o
 obtain ⟨⟨kd,tx,ex⟩,px⟩:=x
 dsimp only at k0 k1 k2 HSH
 refine (callsIn_wide (n:=m+1)).1 ?_
 refine callsIn_of_wp Tryz.func109 rfl trivial ?_ rfl
 simp only [Tryz.ntmps109,List.size_toArray,List.length_cons,List.length_nil,Nat.reduceAdd,Nat.reduceSub,Array.replicate_succ,Array.replicate_zero,List.push_toArray,List.append_toArray,List.nil_append,List.cons_append]
 refine wpIn_wide.2 ?_
 go_wp2_with fail
 have hdr:Below W.heap.size W W.drew:=bl
 go_region_held3 (fun w'=>w'.cell? ⟨bo,0,none⟩=some (.string ⟨op.toArray⟩)∧w'.cell? ⟨g,o0,none⟩=some (.int .i64 kd)∧w'.cell? ⟨g,o0+1,none⟩=some (.string tx)∧w'.cell? ⟨g,o0+2,none⟩=some (.pointer px)) (first | exact ⟨c1,k0,k1,k2⟩ | exact K4) (first | ((with_reducible refine (HSH.out _).mono ?_); rintro e w4 ⟨v4,rfl,hr4,hb4⟩; have hbw4:Below W.heap.size W w4:=hdr.trans hb4; have K4:w4.cell? ⟨bo,0,none⟩=some (.string ⟨op.toArray⟩)∧w4.cell? ⟨g,o0,none⟩=some (.int .i64 kd)∧w4.cell? ⟨g,o0+1,none⟩=some (.string tx)∧w4.cell? ⟨g,o0+2,none⟩=some (.pointer px):=⟨(hbw4.cell (p:=⟨bo,0,none⟩) hbo).trans c1,(hbw4.cell (p:=⟨g,o0,none⟩) hg).trans k0,(hbw4.cell (p:=⟨g,o0+1,none⟩) hg).trans k1,(hbw4.cell (p:=⟨g,o0+2,none⟩) hg).trans k2⟩; obtain ⟨aL,cL,rfl,hcL,_⟩:=id hr4))
 have hkw4:=keepC_below hbw4 (b:=0)
 have HV4:=Hh (HV.out.keep hkw4)
 have HD4:=Hh (HD.out.below hbw4)
 have HRL:=Hh hr4
 have HK4:=Hh hkw4
 have HJ4:=Hh (HJ.out _ _ _ H0.out hbw4)
 have hcL2:(L.length:Int)≤(cL:Int):=by omega
 have HBO:=Hh (show bk≤w4.heap.size by have:=hkw4.1; omega)
 have HRS:=Hh (hrs1.below hbw4)
 have hcd:(1:Int)≤(rest.length:Int)+1:=by omega
 have hc2:¬ 1=c:=fun e=>hc1 e.symm
 clear hrs0 hrs1 hr4 hb4 hbw4 K4 hkw4 hdr k0 k1 k2 c0 c1 c2
 go_wp2_with fail
 go_loopw [7,9,22] (fun _ bx i wr=>∃ (j:Nat) (ys:List (List Op3 × Value)),j≤L.length∧i=.int .i64 j∧Hid (ys.map Prod.fst=(L.take j).flatMap F∧J (pre++ys) wr∧KeepC 0 w4 wr)) (fun _ _ i _=>L.length - (intOf i).toNat)
 case atStart=>exact ⟨0,[],Nat.zero_le _,rfl,Hh ⟨rfl,by rw [List.append_nil]; exact HJ4.out,⟨Nat.le_refl _,fun _ _ _ h _=>h⟩⟩⟩
 case round =>
  obtain ⟨j,ys,hj,rfl,HD2⟩:=hrel
  by_cases hlt:j<L.length
  · obtain ⟨o,ho⟩:∃ o,L[j]? = some o:=⟨_,List.getElem?_eq_getElem hlt⟩
    obtain ⟨hys,hjw,hkw⟩:=HD2.out
    obtain ⟨aX,cX,hvX,hcX,hx⟩:=(HRL.out.keepC hkw).op
    cases hvX
    obtain ⟨gL,oL,rfl,hgL,hcs⟩:=hx (by rintro rfl; exact absurd hlt (Nat.not_lt_zero _))
    obtain ⟨l0,l1,l2⟩:=hcs j o ho
    have HTK:=Hh (take_flat ho F)
    have HPRE:=Hh (fun p hp=>flat_pre ho F (p:=p) hp)
    have hle:=flat_le ho F
    have hyl:ys.length=((L.take j).flatMap F).length:=by rw [←hys,List.length_map]
    have HLE:=Hh (show pre.length+ys.length+(F o).length≤N by have:=HN.out; omega)
    have hi0:(0:Int)≤(j:Int):=by omega
    have hi1:(j:Int)<(L.length:Int):=by omega
    obtain ⟨oa,ob,oc⟩:=o
    dsimp only at l0 l1 l2
    clear hcs hx hle hyl ho
    go_wp2_with fail
    obtain ⟨X,hX⟩:∃ X,wr.alloc (.cells #[.int .i64 oa,.int .i64 ob,.int .i64 oc] 172)=X:=⟨_,rfl⟩
    rw [hX]
    have hal:Below wr.heap.size wr X:=by rw [←hX]; exact (Below.refl _ _).alloc (Nat.le_refl _) _
    have hbk:X.heap[wr.heap.size]? = some (.cells #[.int .i64 oa,.int .i64 ob,.int .i64 oc] 172 (0,0)):=by rw [←hX]; exact blk_new _ _
    have hkX:KeepC 0 w4 X:=keepC_t hkw (keepC_below hal)
    have hbb:bk≤wr.heap.size:=by have:=hkw.1; have:=HBO.out; omega
    obtain ⟨B,hB⟩:∃ B,wr.heap.size=B:=⟨_,rfl⟩
    rw [hB] at hbk hbb ⊢
    have HBB:=Hh hbb
    have hvx:=HV4.out.keep hkX
    obtain ⟨_,_,n0⟩:=hvx.cells
    obtain ⟨m0,m1,m2,_,_,_⟩:=cells3 hbk
    have hb1:=blk_lt hvx.v
    have hb2:=blk_lt hbk
    have hcells:∀ Y,Below X.heap.size X Y→Y.cell? ⟨bv,0,none⟩=some (.func (.func 109) #[] #[.pointer (some ⟨by_,0,none⟩),.pointer (some ⟨bo,0,none⟩),.pointer (some ⟨bv,0,none⟩)])∧Y.cell? ⟨B,0,none⟩=some (.int .i64 oa)∧Y.cell? ⟨B,1,none⟩=some (.int .i64 ob)∧Y.cell? ⟨B,2,none⟩=some (.int .i64 oc):=fun Y hb=>⟨(hb.cell (p:=⟨bv,0,none⟩) hb1).trans n0,(hb.cell (p:=⟨B,0,none⟩) hb2).trans m0,(hb.cell (p:=⟨B,1,none⟩) hb2).trans m1,(hb.cell (p:=⟨B,2,none⟩) hb2).trans m2⟩
    have HCF:=Hh hcells
    have hcK:∀ Y Z,Below X.heap.size X Y→KeepC bk Y Z→Z.cell? ⟨bv,0,none⟩=some (.func (.func 109) #[] #[.pointer (some ⟨by_,0,none⟩),.pointer (some ⟨bo,0,none⟩),.pointer (some ⟨bv,0,none⟩)])∧Z.cell? ⟨B,0,none⟩=some (.int .i64 oa)∧Z.cell? ⟨B,1,none⟩=some (.int .i64 ob)∧Z.cell? ⟨B,2,none⟩=some (.int .i64 oc):=fun Y Z hb hk=>by
     obtain ⟨_,_,z0⟩:=((hvx.keep (keepC_below hb)).keepB hk hk1 hk2 hk3).cells
     obtain ⟨y0,y1,y2,_,_,_⟩:=cells3 (hk.2 _ _ (by have:=HBB.out; omega) (blk_below hbk hb hb2) rfl)
     exact ⟨z0,y0,y1,y2⟩
    have HCK:=Hh hcK
    have hdX:=HD4.out.keepC hkX
    have hcl:∀ Y,Below X.heap.size X Y→Calls Tryz.prog 90 #[.slice ad done.length cd] Y fun e w'=>∃ v',e=.returned v'∧w'.ownsRow X.heap.size 172 3 v' done.length (opc done)∧Below X.heap.size X w'∧Below Y.heap.size Y w':=fun Y hb=>(clone_any _ done Y (hdX.below hb) (by omega)).mono fun e w' ⟨v',h1,h2,h3⟩=>⟨v',h1,owns_mono h2 hb.size,hb.trans (h3.mono hb.size),h3⟩
    have HCL:=Hh hcl
    have hrX:=HRS.out.keepC hkX
    have hjX:=HJ.out _ _ _ hjw hal
    have hvis:∀ Y v,Below X.heap.size X Y→Row Y v (done.length+1) (opc done++[.int .i64 oa,.int .i64 ob,.int .i64 oc])→Calls Tryz.prog 109 #[v,.slice (some ⟨g,o0+3,none⟩) rest.length (c - 1),.pointer (some ⟨by_,0,none⟩),.pointer (some ⟨bo,0,none⟩),.pointer (some ⟨bv,0,none⟩)] Y (VRes bk J Jx (pre++ys) (F (oa,ob,oc)) Y):=fun Y v hb hrv=>by
     have h:=HIH.out (done++[(oa,ob,oc)]) v (.slice (some ⟨g,o0+3,none⟩) rest.length (c - 1)) (pre++ys) Y (hvx.keep (keepC_below hb)) (by rw [List.length_append,opc_snoc]; exact hrv) (hrX.below hb) HS2.out (by rw [List.length_append,List.length_singleton]; omega) (HJ.out _ _ _ hjX hb) (by rw [List.length_append,HFL.out (oa,ob,oc)]; have:=HLE.out; omega)
     rw [HFO.out] at h
     exact h
    have HVIS:=Hh hvis
    have hkwX:Hid (KeepC 0 w4 X):=Hh hkX
    have HYS:=Hh hys
    clear hX hal hbk hkX hvx hcells hdX hcl hrX hjX hvis hjw hkw hys l0 l1 l2 HD2 hbb hcK n0 m0 m1 m2 hb1 hb2
    go_region_held3 (fun w'=>w'.cell? ⟨bv,0,none⟩=some (.func (.func 109) #[] #[.pointer (some ⟨by_,0,none⟩),.pointer (some ⟨bo,0,none⟩),.pointer (some ⟨bv,0,none⟩)])∧w'.cell? ⟨B,0,none⟩=some (.int .i64 oa)∧w'.cell? ⟨B,1,none⟩=some (.int .i64 ob)∧w'.cell? ⟨B,2,none⟩=some (.int .i64 oc)) (first | exact K7 | exact HCF.out _ hb6 | exact HCF.out _ hb5 | exact HCF.out _ (hb5.trans (Below.mono (show Below w5.heap.size w5 _ from bl) hb5.size)) | exact HCF.out _ (bl)) (first
     | ((with_reducible refine (HCL.out _ (bl)).mono ?_); rintro e w5 ⟨v5,rfl,hown5,hb5,hb5y⟩; obtain ⟨a5,c5,rfl⟩:=owns_slice hown5)
     | ((
        refine step_append_at (by rfl) _ _ 22 (by rfl) X.heap.size 172 i0 (.agg #[.int .i64 0,.int .i64 0,.int .i64 0]) 3 24 Tryz.underlying22 hi hz0 hz1 hz2 rfl (by decide) (.slice a5 done.length c5) done.length (opc done) ?_ ?_ ⟨w5.heap.size,0,none⟩ 1 1 [.int .i64 oa,.int .i64 ob,.int .i64 oc] ?_ (by rfl) ?_ ?_ (by unfold maxLen; omega) (by omega) ?_ ?_
        · rfl
        · exact owns_below' hown5 (bl)
        · rfl
        · exact src3c (blk_new _ _)
        · intro u hu; simp at hu; rcases hu with rfl | rfl | rfl<;>rfl
        · exact Nat.le_trans hb5.size (Below.size (show Below w5.heap.size w5 _ from bl))
        intro v6 w6 hown6 hgrow6 _
        obtain ⟨a6,c6,rfl⟩:=owns_slice hown6
        have hb6:Below X.heap.size X w6:=(hb5.trans (Below.mono (show Below w5.heap.size w5 _ from bl) hb5.size)).grown hgrow6 (Nat.le_trans hb5.size (Below.size (show Below w5.heap.size w5 _ from bl))) (fun k hk=>(hown5.lt k hk).1)))
     | ((
        refine step_append_at (by rfl) _ _ 22 (by rfl) X.heap.size 172 i0 (.agg #[.int .i64 0,.int .i64 0,.int .i64 0]) 3 24 Tryz.underlying22 hi hz0 hz1 hz2 rfl (by decide) (.slice a5 done.length c5) done.length (opc done) ?_ ?_ ⟨X.heap.size,0,none⟩ 1 1 [.int .i64 oa,.int .i64 ob,.int .i64 oc] ?_ (by rfl) ?_ ?_ (by unfold maxLen; omega) (by omega) ?_ ?_
        · rfl
        · exact owns_below' hown5 (bl)
        · rfl
        · first | exact src3c (blk_below (blk_new _ _) hb5y (by simp)) | exact src3c (blk_below (blk_drew (blk_new _ _)) hb5y (by simp)) | exact src3c (blk_below (blk_new X.drew _) hb5y (by simp))
        · intro u hu; simp at hu; rcases hu with rfl | rfl | rfl<;>rfl
        · exact Nat.le_trans hb5.size (Below.size (show Below w5.heap.size w5 _ from bl))
        intro v6 w6 hown6 hgrow6 _
        obtain ⟨a6,c6,rfl⟩:=owns_slice hown6
        have hb6:Below X.heap.size X w6:=(hb5.trans (Below.mono (show Below w5.heap.size w5 _ from bl) hb5.size)).grown hgrow6 (Nat.le_trans hb5.size (Below.size (show Below w5.heap.size w5 _ from bl))) (fun k hk=>(hown5.lt k hk).1)))
     | ((with_reducible refine (HVIS.out _ _ hb6 (WRow.of_owns hown6).row).mono ?_); rintro e w7 ⟨r,rfl,hk7,hT,hF⟩; have K7:=HCK.out w6 w7 hb6 hk7))
    all_goals
     have HT:=Hh hT
     have HF:=Hh hF
     have HB6:=Hh hb6
     have HK7:=Hh (show KeepC bk W w7 from keepC_t (keepC_mono HK4.out (Nat.zero_le _)) (keepC_t (keepC_mono hkwX.out (Nat.zero_le _)) (keepC_t (keepC_below hb6) hk7)))
     clear hT hF K7 hk7 hown6 hgrow6 hb6 hown5 hb5 hb5y
     cases r with
     | false =>
       go_wp2_with fail
       refine bodyPost_ret (v:=.bool false) (by simp [results,Tryz.results109,go_sem]) rfl ?_
       obtain ⟨zs,q1,q2⟩:=(by first | exact HF.out rfl | exact HF.out trivial:∃ zs:List (List Op3 × Value),zs.map Prod.fst <+: F (oa,ob,oc)∧Jx (pre++ys++zs) w7)
       exact ⟨false,rfl,HK7.out,fun h=>(by cases h),fun _=>⟨ys++zs,by rw [List.map_append,HYS.out]; exact HPRE.out _ q1,by rw [←List.append_assoc]; exact q2⟩⟩
     | true =>
       go_wp2_with fail
       go_roundw
       case rel =>
        obtain ⟨zs,q1,q2,q3⟩:=(by first | exact HT.out rfl | exact HT.out trivial:∃ zs:List (List Op3 × Value),zs.map Prod.fst=F (oa,ob,oc)∧J (pre++ys++zs) w7∧KeepC 0 w6 w7)
        have hnew:Hid ((ys++zs).map Prod.fst=(L.take (j+1)).flatMap F∧J (pre++(ys++zs)) w7∧KeepC 0 w4 w7):=Hh ⟨by rw [List.map_append,HYS.out,q1,HTK.out],by rw [←List.append_assoc]; exact q2,keepC_t hkwX.out (keepC_t (keepC_below HB6.out) q3)⟩
        first
        | exact ⟨j+1,ys++zs,by omega,by go_num,hnew⟩
        | (refine ⟨_,_,_,⟨j+1,by omega,rfl,ys++zs,hnew⟩,rfl,rfl,?_⟩; go_num)
       case measure=>simp [intOf]; omega
  · obtain rfl:j=L.length:=by omega
    obtain ⟨hys,hjw,hkw⟩:=HD2.out
    rw [List.take_length] at hys
    go_wp2_with fail
    refine bodyPost_ret (v:=.bool true) (by simp [results,Tryz.results109,go_sem]) rfl ?_
    exact ⟨true,rfl,keepC_mono (keepC_t HK4.out hkw) (Nat.zero_le _),fun _=>⟨ys,hys,hjw,keepC_t HK4.out hkw⟩,fun h=>by cases h⟩
end Go.Proofs.YtkldoojonnkfgaaGreatDoor
namespace Go.Proofs.YtkldoojonnkfgaaGreatDoor
open Go.RowKit Go.Sort Go.Shelf
attribute [local go_sem] Oper.semAt_some
set_option maxRecDepth 100000 in
set_option maxHeartbeats 8000000 in
theorem visit_go (op:List UInt8) (lp m bk by_ bo bv N:Nat) (hk1:bk≤by_) (hk2:bk≤bo) (hk3:bk≤bv) (J Jx:List (List Op3 × Value)→World→Prop)
 (hJ:∀ s A B,J s A→Below A.heap.size A B→J s B) (hJx:∀ s A B,Jx s A→Below A.heap.size A B→Jx s B)
 (hY:∀ pre x A,J pre A→Row A x.2 x.1.length (opc x.1)∧x.1.length≤900→pre.length<N→YieldAt Fence.wide m Tryz.prog lp #[x.2] A fun e B=>(e=.returned (.bool true)∧J (pre++[x]) B∧KeepC 0 A B)∨(e=.returned (.bool false)∧Jx (pre++[x]) B∧KeepC bk A B)) :
 ∀ (rest:List (Ar × Option Addr)) (done:List Op3) (vd vr:Value) (pre:List (List Op3 × Value)) (W:World),VB by_ bo bv lp op W→Row W vd done.length (opc done)→Row W vr rest.length (arc rest)→(∀ y∈rest,y.1.text.size≤1000000)→done.length+rest.length≤900→J pre W→pre.length+(choicesP op (rest.map Prod.fst)).length≤N →
  Calls Tryz.prog 109 #[vd,vr,.pointer (some ⟨by_,0,none⟩),.pointer (some ⟨bo,0,none⟩),.pointer (some ⟨bv,0,none⟩)] W (VRes bk J Jx pre ((choicesP op (rest.map Prod.fst)).map (done++·)) W)
 | [],done,vd,vr,pre,W,hV,hD,hR,_,hlen,h0,hN=>by
   obtain ⟨c0,_,_⟩:=hV.cells
   obtain ⟨a,c,rfl,_,_⟩:=hR
   obtain ⟨ad,cd,rfl⟩:∃ ad cd,vd=.slice ad done.length cd:=by obtain ⟨a,c,h,_⟩:=hD; exact ⟨a,c,h⟩
   have hYA:=hY pre (done,.slice ad done.length cd) W h0 ⟨hD,by simpa using hlen⟩ (by have:(choicesP op (([]:List (Ar × Option Addr)).map Prod.fst)).length=1:=rfl; omega)
   obtain ⟨fn,tmps,assign,body,hy,hRo⟩:=hYA
   have HR:=Hh hRo
   have hd:(choicesP op (([]:List (Ar × Option Addr)).map Prod.fst)).map (done++·)=[done]:=by show [done++[]]=_; rw [List.append_nil]
   rw [hd]
   clear hV hD hd hRo hN h0
   refine (callsIn_wide (n:=m+1)).1 ?_
   refine callsIn_of_wp Tryz.func109 rfl trivial ?_ rfl
   simp only [Tryz.ntmps109,List.size_toArray,List.length_cons,List.length_nil,Nat.reduceAdd,Nat.reduceSub,Array.replicate_succ,Array.replicate_zero,List.push_toArray,List.append_toArray,List.nil_append,List.cons_append]
   gi_wp2
   refine HR.out.mono ?_
   rintro e W7 (⟨rfl,hJ7,hk7⟩ | ⟨rfl,hJx7,hk7⟩)
   · gi_wp2
     refine bodyPost_ret (v:=.bool true) (by simp [results,Tryz.results109,go_sem]) rfl ?_
     exact ⟨true,rfl,keepC_mono hk7 (Nat.zero_le _),fun _=>⟨[(done,.slice ad done.length cd)],rfl,hJ7,hk7⟩,fun h=>by cases h⟩
   · gi_wp2
     refine bodyPost_ret (v:=.bool false) (by simp [results,Tryz.results109,go_sem]) rfl ?_
     exact ⟨false,rfl,hk7,fun h=>(by cases h),fun _=>⟨[(done,.slice ad done.length cd)],List.prefix_refl _,hJx7⟩⟩
 | x::rest,done,vd,vr,pre,W,hV,hD,hR,hS,hlen,h0,hN=>by
   have ih:=visit_go op lp m bk by_ bo bv N hk1 hk2 hk3 J Jx hJ hJx hY rest
   obtain ⟨a0,c,rfl,hx⟩:=hR
   by_cases hc1:c=1
   · exact visit_last op lp m bk by_ bo bv N hk1 hk2 hk3 J Jx hJ hJx hY rest ih x done vd a0 _ c pre W hc1 hV hD ⟨a0,c,rfl,hx⟩ hS hlen h0 hN
   · exact visit_more op lp m bk by_ bo bv N hk1 hk2 hk3 J Jx hJ hJx hY rest ih x done vd a0 _ c pre W hc1 hV hD ⟨a0,c,rfl,hx⟩ hS hlen h0 hN
theorem choices_seq (n:Nat) (hn:1≤n) (op:List UInt8) (l:List (Ar × Option Addr)) (vl:Value) (bo bj:Nat) (hs:∀ y∈l,y.1.text.size≤1000000) (hl:l.length≤900) :
 SeqGoX Fence.wide n Tryz.prog 108 #[.pointer (some ⟨bo,0,none⟩),.pointer (some ⟨bj,0,none⟩)] (fun x:List Op3 × Value=>#[x.2]) (KeepC 0) (KeepC bo) (fun A B=>Below A.heap.size A B)
  (fun W=>W.heap[bo]? = some (.cells #[.string ⟨op.toArray⟩] 9 (0,0))∧W.heap[bj]? = some (.cells #[vl] 35 (0,0))∧Row W vl l.length (arc l)) (fun x W=>Row W x.2 x.1.length (opc x.1)∧x.1.length≤900)
  (fun xs=>xs.map Prod.fst=choicesP op (l.map Prod.fst)) (fun pre=>pre.map Prod.fst <+: choicesP op (l.map Prod.fst)) (choicesP op (l.map Prod.fst)).length:=by
 intro lp J Jx W hR hJ hJx hY h0
 obtain ⟨hbo,hbl,hrow⟩:=hR
 have hbl0:=blk_lt hbo
 have hv:=visit_go op lp (n - 1) bo W.heap.size bo (W.heap.size+1) (choicesP op (l.map Prod.fst)).length (by omega) (Nat.le_refl _) (by omega) J Jx hJ hJx hY l [] (.slice none 0 0) vl []
 have e0:(choicesP op (l.map Prod.fst)).map (([]:List Op3)++·)=choicesP op (l.map Prod.fst):=by simp
 rw [e0] at hv
 have hv2:=fun X h1 h2 h3 h4=>hv X h1 h2 h3 hs (by show 0+_≤900; omega) h4 (by show 0+_≤_; omega)
 have HV:=Hh hv2
 have HJ:=Hh hJ; have H0:=Hh h0; have HROW:=Hh hrow
 have k0:W.cell? ⟨bj,0,none⟩=some vl:=by rw [blk_cell hbl]; rfl
 have hll:=blk_lt hbl
 have HBO:=Hh hbo
 obtain ⟨a,c,rfl,_,_⟩:=hrow
 clear hv hv2 e0 hbo hbl hJ hJx hY h0
 refine callsIn_of_wp Tryz.func108 rfl trivial ?_ rfl
 simp only [Tryz.ntmps108,List.size_toArray,List.length_cons,List.length_nil,Nat.reduceAdd,Nat.reduceSub,Array.replicate_succ,Array.replicate_zero,List.push_toArray,List.append_toArray,List.nil_append,List.cons_append]
 gi_wp2_with fail
 refine ⟨trivial,?_⟩
 refine (callsIn_wide.2 (HV.out _ ?v1 ?v2 ?v3 ?v4)).mono ?_
 case v1=>exact ⟨blk_alloc (blk_new _ _),blk_alloc (blk_alloc HBO.out),blk_new2 _ _ _⟩
 case v2=>exact ⟨_,_,rfl,Nat.le_refl _,fun h=>absurd rfl h⟩
 case v3=>exact HROW.out.below (bl)
 case v4=>exact HJ.out _ _ _ H0.out (bl)
 rintro e B ⟨r,rfl,_,h1,h2⟩
 have H1:=Hh h1; have H2:=Hh h2
 clear h1 h2
 gi_wp2
 go_end0
 cases r with
 | true =>
   obtain ⟨ys,q1,q2,_⟩:=H1.out rfl
   exact ⟨⟨_,rfl⟩,.inl ⟨ys,q1,q2⟩⟩
 | false =>
   obtain ⟨ys,q1,q2⟩:=H2.out rfl
   exact ⟨⟨_,rfl⟩,.inr ⟨ys,q1,q2⟩⟩
end Go.Proofs.YtkldoojonnkfgaaGreatDoor
