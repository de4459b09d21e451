/- Joined. -/
import Derived.Test.YtoigglljnklhlaaGreatDoorProg
import Derived.RangeFuncNested
import Derived.WalkKit
set_option maxHeartbeats 8000000
set_option maxRecDepth 100000
namespace Go.Proofs.YtoigglljnklhlaaGreatDoor
open Go.RowKit
def vS {α:Type} (F:Fence) (n:Nat) (P:Program) (g:Nat) (lb:Array Value) (encs:α→Array Value) (Kp St:World→World→Prop) (Rdy:World→Prop) (Gv:α→World→Prop) (S Sp:List α→Prop) (N:Nat):Prop :=
 ∀ (l:Nat) (J Jx:List α→World→Prop) (W:World),Rdy W→(∀ s A B,J s A→St A B→J s B)→(∀ s A B,Jx s A→St A B→Jx s B) →
  (∀ pre x A,J pre A→Gv x A→pre.length<N→YieldAt F (n - 1) P l (encs x) A fun e B =>
   (e=.returned (.bool true)∧J (pre++[x]) B∧Kp A B)∨(e=.returned (.bool false)∧Jx (pre++[x]) B)) →
  J [] W →
  CallsIn F n P g (#[.func (.yield l) #[] #[]]++lb) W fun e B=>(∃ v,e=.returned v)∧((∃ xs,S xs∧J xs B)∨(∃ pre,Sp pre∧Jx pre B))
variable {F:Fence} {n:Nat} {P:Program}
theorem gJ {α:Type} {g:Operand} {ps:Array Tmp} {assign body:Code} {Q:Exit→Act→World→Prop} {a:Act} {w:World}
 (hro:F.round=none) (h1:1≤n) {gf:Nat} {lb:Array Value} (hg:a.eval g=.func (.func gf) #[] lb) (hFg:F.fn gf) (eg:∀ args w,(callFunc gf args).run P w=.ok (.enter gf args) w)
 {encs:α→Array Value} {Kp St:World→World→Prop} {Rdy:World→Prop} {Gv:α→World→Prop} {S Sp:List α→Prop} {N:Nat} (hseq:vS F (n - 1) P gf lb encs Kp St Rdy Gv S Sp N)
 (hrdy:∀ o o',Rdy ((w.alloc o).alloc o')) (hSt:∀ (A B:World) (k:Nat) (o:Obj),St A B→A.heap[k]? = some o→o.isCells=false→o.isWalk=false→B.heap[k]? = some o)
 (hKt:∀ {A B C:World},Kp A B→Kp B C→Kp A C) (hKb:∀ (W:World) (l:Nat) (o o':Obj),w.heap.size≤l→W.heap[l]? = some o→o.isCells=false→o.isWalk=false→Kp W (W.putObj l o')) (hGv:∀ (x:α) (W:World) (l:Nat) (o o':Obj),Gv x W→w.heap.size≤l→W.heap[l]? = some o→o.isCells=false→Gv x (W.putObj l o')) (hps:∀ x,(encs x).size=ps.size)
 (I:List α→World→Prop) (Ix:Code→List α→World→Prop) (hI:OwnFrom w.heap.size I) (hIs:∀ s A B,I s A→St A B→I s B) (hIx:∀ c,OwnFrom w.heap.size (Ix c)) (hIxs:∀ c s A B,Ix c s A→St A B→Ix c s B) (h0:I [] w) (a₁:α→Act)
 (hassign:∀ (l:Nat) (x:α) (W:World) (K:Act→World→Prop),K (a₁ x) W →
  assign.wpIn (F.inRound l) (n - 1 - 1) P (Exit.then K (fun _ _ _=>False)) { tmps:=(ps.zip (encs x)).foldl (fun t (p,v)=>t.setIfInBounds p v) a.tmps,defers:=[] } W)
 (hbody:∀ (l:Nat) (pre:List α) (x:α) (W:World),I pre W→Gv x W→pre.length<N→body.wpIn (F.inRound l) (n - 1 - 1) P (ownPostK Kp I Ix (pre++[x]) W) (a₁ x) W)
 (hdone:∀ (D:Nat) (xs:List α) (W:World),w.heap.size≤D→S xs→I xs W→W.heap[D]? = some (.deferred (some []))→Q .normal { a with defers:={ target:=.collected D,args:=#[] }::a.defers } W)
 (hstop:∀ (D:Nat) (c:Code) (pre:List α) (W:World),w.heap.size≤D→Sp pre→Ix c pre W→W.heap[D]? = some (.deferred (some []))→c.wpIn F n P Q { a with defers:={ target:=.collected D,args:=#[] }::a.defers } W) :
 (Code.rangeFunc g ps assign body).wpIn F n P Q a w:=by
 refine wpIn_rangeFunc fun fn hfn=>?_;rw[hro]
 let rc:LoopState→Option Code→Loop:=fun st pe=>{ state:=st,pending:=pe,fn,tmps:=a.tmps,params:=ps,assign,body,defers:=w.heap.size }
 have hlen:(w.alloc (.deferred (some []))).heap.size=w.heap.size+1:=by simp
 obtain⟨V,hV⟩:∃ V,(w.alloc (.deferred (some []))).alloc (.loop (rc .ready none))=V:=⟨_,rfl⟩;have hVr:V.heap[w.heap.size+1]? = some (.loop (rc .ready none)):=by
  rw[←hV]
  have:=World.alloc_heap_new (w.alloc (.deferred (some []))) (.loop (rc .ready none))
  rwa [hlen] at this
 have hVd:V.heap[w.heap.size]? = some (.deferred (some [])):=by
  rw[←hV];exact (Below.heap_alloc _ _ _ (by omega)).trans (World.alloc_heap_new w _)
 have hVI:I [] V:=by rw[←hV];exact hI.alloc _ (hI.alloc _ h0)
 have hVR:Rdy V:=by rw[←hV];exact hrdy _ _
 refine⟨w.heap.size+1,[{ target:=.collected w.heap.size,args:=#[] }],V,{ target:=.fn (.func gf) lb,args:=#[.func (.yield (w.heap.size+1)) #[] #[]] },V,gf,#[.func (.yield (w.heap.size+1)) #[] #[]]++lb,V,?_,?_,?_,?_,fun _=>h1,?_⟩
 · rw[←hV];exact run_enterLoop_outer _ _ _ _ _
 · simp only[resolve,hg];simp[go_sem]
 · intro f' hf';simp[Target.leads] at hf';subst hf';exact hFg
 · simp[invoke,go_sem,eg]
 · refine (hseq (w.heap.size+1)
    (fun pre W=>I pre W∧W.heap[w.heap.size+1]? = some (.loop (rc .ready none))∧W.heap[w.heap.size]? = some (.deferred (some [])))
    (fun pre W=>∃ c,Ix c pre W∧W.heap[w.heap.size+1]? = some (.loop (rc .done (some c)))∧W.heap[w.heap.size]? = some (.deferred (some [])))
    V hVR (fun s A B h hs=>⟨hIs s A B h.1 hs,hSt A B _ _ hs h.2.1 rfl rfl,hSt A B _ _ hs h.2.2 rfl rfl⟩)
    (fun s A B ⟨c,hc,hl,hk⟩ hs=>⟨c,hIxs c s A B hc hs,hSt A B _ _ hs hl rfl rfl,hSt A B _ _ hs hk rfl rfl⟩) ?_ ⟨hVI,hVr,hVd⟩).mono ?_
   · rintro pre x W ⟨hi,hl,hk⟩ hg hN;have hlt:w.heap.size+1<W.heap.size:=(Array.getElem?_eq_some_iff.1 hl).1;have hy:=run_yield (P:=P) (args:=encs x) hl (hps x);refine⟨fn,_,assign,body,hy,roundIn_of_wpIn hfn (hassign _ x W _ ⟨_,run_beginRound hl rfl,?_⟩)⟩;obtain⟨U,hU⟩:∃ U,W.putObj (w.heap.size+1) (.loop { rc .ready none with state:=.busy })=U:=⟨_,rfl⟩;have hUl:U.heap[w.heap.size+1]? = some (.loop { rc .ready none with state:=.busy }):=by rw[←hU];exact World.putObj_heap_same hlt
     have hUd:U.heap[w.heap.size]? = some (.deferred (some [])):=by rw[←hU];exact (World.putObj_heap_other (by omega)).trans hk
     have hUK:Kp W U:=by rw[←hU];exact hKb _ _ _ _ (by omega) hl rfl rfl
     have hUI:I pre U:=by rw[←hU];exact hI.putObj _ hi (by omega) hl rfl
     rw[hU];have hUG:Gv x U:=by rw[←hU];exact hGv x W _ _ _ hg (by omega) hl rfl
     refine wpIn_mono (hbody _ pre x U hUI hUG hN) ?_;have fin:∀ (jump:Option Code) (X:World),KeepsOthers U X →
      (Instr.endRound (w.heap.size+1) jump).run P X=.ok (.bool jump.isNone) (X.putObj (w.heap.size+1) (.loop (rc (if jump.isNone then .ready else .done) jump))) ∧
      X.heap[w.heap.size+1]? = some (.loop { rc .ready none with state:=.busy }) ∧
      (X.putObj (w.heap.size+1) (.loop (rc (if jump.isNone then .ready else .done) jump))).heap[w.heap.size+1]? = some (.loop (rc (if jump.isNone then .ready else .done) jump)) ∧
      (X.putObj (w.heap.size+1) (.loop (rc (if jump.isNone then .ready else .done) jump))).heap[w.heap.size]? = some (.deferred (some [])):=fun jump X hX=>by
      have hXl:=hX.same _ _ hUl rfl;exact⟨run_endRound (P:=P) jump hXl,hXl,World.putObj_heap_same (Array.getElem?_eq_some_iff.1 hXl).1,(World.putObj_heap_other (by omega)).trans (hX.same _ _ hUd rfl)⟩
     rintro e a3 X hp;cases e with
     | normal =>
       obtain⟨p1,p2,p3⟩:=hp;obtain⟨r1,r2,r3,r4⟩:=fin none X p1;exact⟨_,_,r1,.inl ⟨rfl,⟨hI.putObj _ p3 (by omega) r2 rfl,r3,r4⟩,hKt (hKt hUK p2) (hKb _ _ _ _ (by omega) r2 rfl rfl)⟩⟩
     | ret =>
       obtain⟨p1,p3⟩:=hp;obtain⟨r1,r2,r3,r4⟩:=fin (some .ret) X p1;exact⟨_,_,r1,.inr ⟨rfl,.ret,(hIx _).putObj _ p3 (by omega) r2 rfl,r3,r4⟩⟩
     | exit id =>
       obtain⟨p1,p3⟩:=hp;obtain⟨r1,r2,r3,r4⟩:=fin (some (.exit id)) X p1;exact⟨_,_,r1,.inr ⟨rfl,.exit id,(hIx _).putObj _ p3 (by omega) r2 rfl,r3,r4⟩⟩
     | goto t =>
       obtain⟨p1,p3⟩:=hp;obtain⟨r1,r2,r3,r4⟩:=fin (some (.goto t)) X p1;exact⟨_,_,r1,.inr ⟨rfl,.goto t,(hIx _).putObj _ p3 (by omega) r2 rfl,r3,r4⟩⟩
     | panic ch=>exact hp.elim
     | outgrown=>exact hp.elim
   · rintro e X ⟨⟨v,rfl⟩,(⟨xs,hS,hi,hl,hk⟩|⟨pre,hSp,c,hi,hl,hk⟩)⟩
     · exact⟨none,_,run_endLoop (P:=P) hl (by simp[rc]),hdone _ xs _ (Nat.le_refl _) hS (hI.putObj _ hi (by omega) hl rfl) ((World.putObj_heap_other (by omega)).trans hk)⟩
     · exact⟨some c,_,run_endLoop (P:=P) hl (by simp[rc]),hstop _ c pre _ (Nat.le_refl _) hSp ((hIx c).putObj _ hi (by omega) hl rfl) ((World.putObj_heap_other (by omega)).trans hk)⟩
end Go.Proofs.YtoigglljnklhlaaGreatDoor
