/- Joined texts: PagesQ, FitsQ, CandT, StepsA, CandS, FitTake, FindQ, FitsC, FitsS. -/
import Derived.Test.YtkldoojonnkfgaaGreatDoorC37
import Derived.Test.YtkldoojonnkfgaaGreatDoorC38
namespace Go.Proofs.YtkldoojonnkfgaaGreatDoor
open Go.RowKit Go.Sort
theorem bounds0:∀ k:Fin 11,1≤k.val→klo k.val≤0∧0≤khi k.val:=by decide +kernel
theorem idx_fin:∀ k:Fin 11,∀ r:Fin 9,opValid (k.val:Int) (r.val:Int) 0=true→indexS (k.val:Int) (r.val:Int) 0=idxK (k.val:Int) (r.val:Int):=by decide +kernel
theorem opValid_zero {k r n:Int} (h:opValid k r n=true):opValid k r 0=true:=by
 unfold opValid at h ⊢
 simp only [Bool.and_eq_true,decide_eq_true_eq] at h ⊢
 obtain ⟨⟨⟨⟨⟨⟨h1,h2⟩,h3⟩,h4⟩,h5⟩,h6⟩,h7⟩:=h
 have hb:=bounds0 ⟨k.toNat,by omega⟩ (by show 1≤k.toNat; omega)
 exact ⟨⟨⟨⟨⟨⟨h1,h2⟩,h3⟩,h4⟩,h5⟩,hb.1⟩,hb.2⟩
theorem idx_ok {k r n:Int} (h:opValid k r n=true):indexS k r 0=idxK k r:=by
 have h0:=opValid_zero h
 have h':=h0
 unfold opValid at h'
 simp only [Bool.and_eq_true,decide_eq_true_eq] at h'
 obtain ⟨⟨⟨⟨⟨⟨h1,h2⟩,h3⟩,h4⟩,h5⟩,h6⟩,h7⟩:=h'
 have hk:k=((⟨k.toNat,by omega⟩:Fin 11).val:Int):=by show k=(k.toNat:Int); omega
 have hr:r=((⟨r.toNat,by omega⟩:Fin 9).val:Int):=by show r=(r.toNat:Int); omega
 rw [hk,hr] at h0 ⊢
 exact idx_fin _ _ h0
theorem lastI_some {ks:List Int} {l:List Op3} {k:Nat} (h:lastK ks l=some k):lastI ks l=k:=by unfold lastI; rw [h]
theorem lastI_none {ks:List Int} {l:List Op3} (h:lastK ks l=none):lastI ks l=-1:=by unfold lastI; rw [h]
theorem lastK_lt {ks:List Int} {l:List Op3} {k:Nat} (h:lastK ks l=some k):k<l.length:=by
 have:=List.mem_of_find?_eq_some h
 simpa using this
theorem lastI_ok (ks:List Int) (l:List Op3):decide (0≤lastI ks l)=(lastK ks l).isSome:=by
 cases h:lastK ks l with
 | none=>rw [lastI_none h]; rfl
 | some k=>rw [lastI_some h]; simp
theorem disp_ok (e:Ent):(decide (100∈e.extra) && decide (0≤lastI [5] e.args))=(dIdx e).isSome:=by
 unfold dIdx
 rw [lastI_ok]
 by_cases h:100∈e.extra<;>simp [h]
theorem disp_at {e:Ent} {k:Nat} (h:dIdx e=some k):lastI [5] e.args=k∧k<e.args.length:=by
 unfold dIdx at h
 split at h
 · exact ⟨lastI_some h,lastK_lt h⟩
 · cases h
def boundsC (c:UInt8):Int × Int:=if c=100∨c=101 then (-128,127) else if c=110 then (0,255) else (0,65535)
theorem within_bounds (c:UInt8) (n:Int):withinP c n=(decide ((boundsC c).1≤n) && decide (n≤(boundsC c).2)):=by
 unfold withinP boundsC
 split
 · rfl
 · split<;>rfl
theorem numb_ok (e:Ent):((numSpec e.extra e.args).2.isSome && decide (0≤(numSpec e.extra e.args).1))=(nIdx e).isSome:=by
 unfold numSpec nIdx
 split
 · rw [lastI_ok]; simp
 · split
   · rw [lastI_ok]; simp
   · split
     · rw [lastI_ok]; simp
     · rfl
theorem numb_at {e:Ent} {k:Nat} {c:UInt8} (h:nIdx e=some (k,c)):(numSpec e.extra e.args).1=k∧(numSpec e.extra e.args).2=some (boundsC c)∧k<e.args.length:=by
 unfold nIdx at h
 unfold numSpec
 split at h
 · rename_i h1
   rw [if_pos h1]
   obtain ⟨q,hq,he⟩:=Option.map_eq_some_iff.1 h
   cases he
   exact ⟨lastI_some hq,rfl,lastK_lt hq⟩
 · rename_i h1
   rw [if_neg h1]
   split at h
   · rename_i h2
     rw [if_pos h2]
     obtain ⟨q,hq,he⟩:=Option.map_eq_some_iff.1 h
     cases he
     exact ⟨lastI_some hq,rfl,lastK_lt hq⟩
   · rename_i h2
     rw [if_neg h2]
     split at h
     · rename_i h3
       rw [if_pos h3]
       obtain ⟨q,hq,he⟩:=Option.map_eq_some_iff.1 h
       cases he
       exact ⟨lastI_some hq,rfl,lastK_lt hq⟩
     · cases h
theorem candidates_any (m:List UInt8) (a:Option Addr) (n c:Nat) (w:World):Calls Tryz.prog 52 #[insV m (.slice a n c)] w fun e w'=>e=.returned (.func (.func 114) #[] #[.pointer (some ⟨w.heap.size,0,none⟩)])∧w'=w.alloc (.cells #[.string ⟨m.toArray⟩,.slice a n c] 24):=by
 go_enter Tryz.func52,Tryz.ntmps52
 go_wp2_with fail
 go_ret
 exact ⟨rfl,rfl⟩
end Go.Proofs.YtkldoojonnkfgaaGreatDoor
namespace Go.Proofs.YtkldoojonnkfgaaGreatDoor
open Go.RowKit
variable {F:Fence} {n:Nat} {P:Program}
theorem wpIn_rangeFunc_stepsA {α:Type} {g:Operand} {ps:Array Tmp} {assign body:Code} {Q:Exit→Act→World→Prop} {a:Act} {w:World}
 (hro:F.round=none) (h1:1≤n) {gf:Nat} {lb:Array Value} (hg:a.eval g=.func (.func gf) #[] lb) (hFg:F.fn gf) (eg:∀ args w,(callFunc gf args).run P w=.ok (.enter gf args) w)
 {encs:α→Array Value} {Kp St:World→World→Prop} {Rdy:World→Prop} {Gv:α→World→Prop} {S Sp:List α→Prop} {N:Nat} (hseq:SeqGo F (n - 1) P gf lb encs Kp St Rdy Gv S Sp N)
 (hrdy:∀ o o',Rdy ((w.alloc o).alloc o')) (hSt:∀ (A B:World) (k:Nat) (o:Obj),St A B→A.heap[k]? = some o→o.isCells=false→o.isWalk=false→B.heap[k]? = some o)
 (hKt:∀ {A B C:World},Kp A B→Kp B C→Kp A C) (hKb:∀ (W:World) (l:Nat) (o o':Obj),w.heap.size≤l→W.heap[l]? = some o→o.isCells=false→o.isWalk=false→Kp W (W.putObj l o')) (hGv:∀ (x:α) (W:World) (l:Nat) (o o':Obj),Gv x W→w.heap.size≤l→W.heap[l]? = some o→o.isCells=false→Gv x (W.putObj l o')) (hps:∀ x,(encs x).size=ps.size)
 (I:List α→World→Prop) (Ix:Code→List α→World→Prop) (hI:OwnFrom w.heap.size I) (hIs:∀ s A B,I s A→St A B→I s B) (hIx:∀ c,OwnFrom w.heap.size (Ix c)) (hIxs:∀ c s A B,Ix c s A→St A B→Ix c s B) (h0:I [] w) (a₁:α→World→Act) (W₁:α→World→World) (Ax:α→Act→World→Prop)
 (hassign:∀ (l:Nat) (x:α) (W:World) (K:Act→World→Prop),Gv x W→K (a₁ x W) (W₁ x W) →
  assign.wpIn (F.inRound l) (n - 1 - 1) P (Exit.then K (fun _ _ _=>False)) { tmps:=(ps.zip (encs x)).foldl (fun t (p,v)=>t.setIfInBounds p v) a.tmps,defers:=[] } W)
 (hW1:∀ x W,St W (W₁ x W)) (hKs:∀ x W,Kp W (W₁ x W)) (hGs:∀ x W,Gv x W→Gv x (W₁ x W)) (hAx0:∀ x W,Ax x (a₁ x W) (W₁ x W)) (hAxp:∀ (x:α) (a':Act) (W:World) (l:Nat) (o o':Obj),Ax x a' W→w.heap.size≤l→W.heap[l]? = some o→o.isCells=false→Ax x a' (W.putObj l o'))
 (hbody:∀ (l:Nat) (pre:List α) (x:α) (a':Act) (W:World),I pre W→Gv x W→Ax x a' W→pre.length<N→body.wpIn (F.inRound l) (n - 1 - 1) P (ownPostK Kp I Ix (pre++[x]) W) a' W)
 (hdone:∀ (D:Nat) (xs:List α) (W:World),w.heap.size≤D→S xs→I xs W→W.heap[D]? = some (.deferred (some []))→Q .normal { a with defers:={ target:=.collected D,args:=#[] }::a.defers } W)
 (hstop:∀ (D:Nat) (c:Code) (pre:List α) (W:World),w.heap.size≤D→Sp pre→Ix c pre W→W.heap[D]? = some (.deferred (some []))→c.wpIn F n P Q { a with defers:={ target:=.collected D,args:=#[] }::a.defers } W) :
 (Code.rangeFunc g ps assign body).wpIn F n P Q a w:=by
 refine wpIn_rangeFunc fun fn hfn=>?_
 rw [hro]
 let rc:LoopState→Option Code→Loop:=fun st pe=>{ state:=st,pending:=pe,fn,tmps:=a.tmps,params:=ps,assign,body,defers:=w.heap.size }
 have hlen:(w.alloc (.deferred (some []))).heap.size=w.heap.size+1:=by simp
 obtain ⟨V,hV⟩:∃ V,(w.alloc (.deferred (some []))).alloc (.loop (rc .ready none))=V:=⟨_,rfl⟩
 have hVr:V.heap[w.heap.size+1]? = some (.loop (rc .ready none)):=by
  rw [←hV]
  have:=World.alloc_heap_new (w.alloc (.deferred (some []))) (.loop (rc .ready none))
  rwa [hlen] at this
 have hVd:V.heap[w.heap.size]? = some (.deferred (some [])):=by
  rw [←hV]
  exact (Below.heap_alloc _ _ _ (by omega)).trans (World.alloc_heap_new w _)
 have hVI:I [] V:=by rw [←hV]; exact hI.alloc _ (hI.alloc _ h0)
 have hVR:Rdy V:=by rw [←hV]; exact hrdy _ _
 refine ⟨w.heap.size+1,[{ target:=.collected w.heap.size,args:=#[] }],V,{ target:=.fn (.func gf) lb,args:=#[.func (.yield (w.heap.size+1)) #[] #[]] },V,gf,#[.func (.yield (w.heap.size+1)) #[] #[]]++lb,V,?_,?_,?_,?_,fun _=>h1,?_⟩
 · rw [←hV]; exact run_enterLoop_outer _ _ _ _ _
 · simp only [resolve,hg]; simp [go_sem]
 · intro f' hf'; simp [Target.leads] at hf'; subst hf'; exact hFg
 · simp [invoke,go_sem,eg]
 · refine (hseq (w.heap.size+1)
    (fun pre W=>I pre W∧W.heap[w.heap.size+1]? = some (.loop (rc .ready none))∧W.heap[w.heap.size]? = some (.deferred (some [])))
    (fun pre W=>∃ c,Ix c pre W∧W.heap[w.heap.size+1]? = some (.loop (rc .done (some c)))∧W.heap[w.heap.size]? = some (.deferred (some [])))
    V hVR (fun s A B h hs=>⟨hIs s A B h.1 hs,hSt A B _ _ hs h.2.1 rfl rfl,hSt A B _ _ hs h.2.2 rfl rfl⟩)
    (fun s A B ⟨c,hc,hl,hk⟩ hs=>⟨c,hIxs c s A B hc hs,hSt A B _ _ hs hl rfl rfl,hSt A B _ _ hs hk rfl rfl⟩) ?_ ⟨hVI,hVr,hVd⟩).mono ?_
   · rintro pre x W0 ⟨hi0,hl0,hk0⟩ hg0 hN
     have hy:=run_yield (P:=P) (args:=encs x) hl0 (hps x)
     obtain ⟨W,hW⟩:∃ W,W₁ x W0=W:=⟨_,rfl⟩
     have hs:=hW1 x W0
     have hK0:=hKs x W0
     have hg:=hGs x W0 hg0
     have hA:=hAx0 x W0
     have has:=fun K=>hassign (w.heap.size+1) x W0 K hg0
     rw [hW] at hs hK0 hg hA has
     have hi:=hIs _ _ _ hi0 hs
     have hl:=hSt _ _ _ _ hs hl0 rfl rfl
     have hk:=hSt _ _ _ _ hs hk0 rfl rfl
     have hlt:w.heap.size+1<W.heap.size:=(Array.getElem?_eq_some_iff.1 hl).1
     refine ⟨fn,_,assign,body,hy,roundIn_of_wpIn hfn (has _ ⟨_,run_beginRound hl rfl,?_⟩)⟩
     obtain ⟨U,hU⟩:∃ U,W.putObj (w.heap.size+1) (.loop { rc .ready none with state:=.busy })=U:=⟨_,rfl⟩
     have hUl:U.heap[w.heap.size+1]? = some (.loop { rc .ready none with state:=.busy }):=by rw [←hU]; exact World.putObj_heap_same hlt
     have hUd:U.heap[w.heap.size]? = some (.deferred (some [])):=by rw [←hU]; exact (World.putObj_heap_other (by omega)).trans hk
     have hUK:Kp W0 U:=by rw [←hU]; exact hKt hK0 (hKb _ _ _ _ (by omega) hl rfl rfl)
     have hUI:I pre U:=by rw [←hU]; exact hI.putObj _ hi (by omega) hl rfl
     rw [hU]
     have hUG:Gv x U:=by rw [←hU]; exact hGv x W _ _ _ hg (by omega) hl rfl
     have hUA:Ax x (a₁ x W0) U:=by rw [←hU]; exact hAxp x _ W _ _ _ hA (by omega) hl rfl
     refine wpIn_mono (hbody _ pre x _ U hUI hUG hUA hN) ?_
     have fin:∀ (jump:Option Code) (X:World),KeepsOthers U X →
      (Instr.endRound (w.heap.size+1) jump).run P X=.ok (.bool jump.isNone) (X.putObj (w.heap.size+1) (.loop (rc (if jump.isNone then .ready else .done) jump))) ∧
      X.heap[w.heap.size+1]? = some (.loop { rc .ready none with state:=.busy }) ∧
      (X.putObj (w.heap.size+1) (.loop (rc (if jump.isNone then .ready else .done) jump))).heap[w.heap.size+1]? = some (.loop (rc (if jump.isNone then .ready else .done) jump)) ∧
      (X.putObj (w.heap.size+1) (.loop (rc (if jump.isNone then .ready else .done) jump))).heap[w.heap.size]? = some (.deferred (some [])):=fun jump X hX=>by
      have hXl:=hX.same _ _ hUl rfl
      exact ⟨run_endRound (P:=P) jump hXl,hXl,World.putObj_heap_same (Array.getElem?_eq_some_iff.1 hXl).1,(World.putObj_heap_other (by omega)).trans (hX.same _ _ hUd rfl)⟩
     rintro e a3 X hp
     cases e with
     | normal =>
       obtain ⟨p1,p2,p3⟩:=hp
       obtain ⟨r1,r2,r3,r4⟩:=fin none X p1
       exact ⟨_,_,r1,.inl ⟨rfl,⟨hI.putObj _ p3 (by omega) r2 rfl,r3,r4⟩,hKt (hKt hUK p2) (hKb _ _ _ _ (by omega) r2 rfl rfl)⟩⟩
     | ret =>
       obtain ⟨p1,p3⟩:=hp
       obtain ⟨r1,r2,r3,r4⟩:=fin (some .ret) X p1
       exact ⟨_,_,r1,.inr ⟨rfl,.ret,(hIx _).putObj _ p3 (by omega) r2 rfl,r3,r4⟩⟩
     | exit id =>
       obtain ⟨p1,p3⟩:=hp
       obtain ⟨r1,r2,r3,r4⟩:=fin (some (.exit id)) X p1
       exact ⟨_,_,r1,.inr ⟨rfl,.exit id,(hIx _).putObj _ p3 (by omega) r2 rfl,r3,r4⟩⟩
     | goto t =>
       obtain ⟨p1,p3⟩:=hp
       obtain ⟨r1,r2,r3,r4⟩:=fin (some (.goto t)) X p1
       exact ⟨_,_,r1,.inr ⟨rfl,.goto t,(hIx _).putObj _ p3 (by omega) r2 rfl,r3,r4⟩⟩
     | panic ch=>exact hp.elim
     | outgrown=>exact hp.elim
   · rintro e X ⟨⟨v,rfl⟩,(⟨xs,hS,hi,hl,hk⟩ | ⟨pre,hSp,c,hi,hl,hk⟩)⟩
     · exact ⟨none,_,run_endLoop (P:=P) hl (by simp [rc]),hdone _ xs _ (Nat.le_refl _) hS (hI.putObj _ hi (by omega) hl rfl) ((World.putObj_heap_other (by omega)).trans hk)⟩
     · exact ⟨some c,_,run_endLoop (P:=P) hl (by simp [rc]),hstop _ c pre _ (Nat.le_refl _) hSp ((hIx c).putObj _ hi (by omega) hl rfl) ((World.putObj_heap_other (by omega)).trans hk)⟩
end Go.Proofs.YtkldoojonnkfgaaGreatDoor
namespace Go.Proofs.YtkldoojonnkfgaaGreatDoor
open Go.RowKit Go.Sort Go.Shelf
attribute [local go_sem] Oper.semAt_some
structure EntsR (w:World) (N:Nat) (v:Value) (vs:List (Ent × Value)):Prop where
 row:WRow w N v vs.length (entc vs)
 args:∀ x∈vs,WRow w N x.2 x.1.args.length (opc x.1.args)
theorem EntsAt.rows {w:World} {base:Nat} {v:Value} {vs:List (Ent × Value)} (h:EntsAt w base v vs):EntsR w base v vs:=⟨WRow.of_owns h.own,h.args⟩
theorem EntsR.keepC {A B:World} {b N:Nat} {v:Value} {vs:List (Ent × Value)} (h:EntsR A N v vs) (hk:KeepC b A B) (hb:b≤N):EntsR B N v vs:=⟨h.row.keepC hk hb,fun x hx=>(h.args x hx).keepC hk hb⟩
theorem entc_len (vs:List (Ent × Value)):(entc vs).length=vs.length * 6:=by
 unfold entc
 induction vs with
 | nil=>rfl
 | cons a l ih=>simp [entc1] at ih ⊢; omega
theorem entc_get:∀ (vs:List (Ent × Value)) (i k:Nat) (x:Ent × Value),vs[i]? = some x→k<6→(entc vs)[i * 6+k]? = (entc1 x)[k]?
 | [],i,k,x,h,_=>by simp at h
 | a::l,0,k,x,h,hk=>by
   simp at h; subst h
   show (entc1 a++entc l)[0 * 6+k]? = _
   rw [List.getElem?_append_left (by simp [entc1]; omega)]
   congr 1; omega
 | a::l,i+1,k,x,h,hk=>by
   have ih:=entc_get l i k x (by simpa using h) hk
   show (entc1 a++entc l)[(i+1) * 6+k]? = _
   rw [List.getElem?_append_right (by simp [entc1]; omega),←ih]
   congr 1; simp [entc1]; omega
theorem EntsR.get {w:World} {N:Nat} {v:Value} {vs:List (Ent × Value)} (h:EntsR w N v vs):∃ a cap,v=.slice a vs.length cap∧vs.length≤cap∧(vs≠[]→∃ g o,a=some ⟨g,o,none⟩∧g<w.heap.size∧∀ i x,vs[i]? = some x →
 w.cell? ⟨g,o+i * 6,none⟩=some (.int .i64 x.1.page)∧w.cell? ⟨g,o+i * 6+1,none⟩=some (.int .u8 x.1.op)∧w.cell? ⟨g,o+i * 6+2,none⟩=some (.string ⟨x.1.mn.toArray⟩)∧w.cell? ⟨g,o+i * 6+3,none⟩=some x.2∧w.cell? ⟨g,o+i * 6+4,none⟩=some (.string ⟨x.1.extra.toArray⟩)∧w.cell? ⟨g,o+i * 6+5,none⟩=some (.bool x.1.alias)):=by
 obtain ⟨a,cap,hv,hn,hh⟩:=h.row.row
 refine ⟨a,cap,hv,hn,fun hne=>?_⟩
 have hlen:=entc_len vs
 obtain ⟨g,o,ha,hg,hc⟩:=hh (by intro e; rw [e] at hlen; apply hne; exact List.eq_nil_of_length_eq_zero (by simp at hlen; omega))
 refine ⟨g,o,ha,hg,fun i x hx=>?_⟩
 have hi:i<vs.length:=(List.getElem?_eq_some_iff.1 hx).1
 have hk:∀ k,k<6→w.cell? ⟨g,o+i * 6+k,none⟩=(entc1 x)[k]? := fun k hk=>by
  rw [Nat.add_assoc,hc (i * 6+k) (by omega),entc_get vs i k x hx hk]
 exact ⟨hk 0 (by omega),hk 1 (by omega),hk 2 (by omega),hk 3 (by omega),hk 4 (by omega),hk 5 (by omega)⟩
theorem owns_len {w:World} {base n size:Nat} {e:TypeId} {v:Value} {xs:List Value} (h:w.ownsRow base e size v n xs):n≤maxLen:=by
 rcases h.2 with ⟨_,rfl⟩ | ⟨g,cap,cur,_,_,_,h1,h2,_⟩
 · exact Nat.zero_le _
 · exact Nat.le_trans h1 h2
theorem pagesS_ok:∀ l:List Op3,0<(pagesS l).length∧(pagesS l).length≤3∧∀ p∈pagesS l,p<7
 | []=>by unfold pagesS; decide
 | o::l=>by
   have ih:=pagesS_ok l
   unfold pagesS
   split
   · decide
   · split
     · decide
     · exact ih
set_option maxRecDepth 100000 in
set_option maxHeartbeats 4000000 in
theorem cand_go (n b:Nat) (hn:1≤n) (m:List UInt8) (v:Value) (l:List Op3) (hl:l.length≤1000) :
 SeqGo Fence.wide n Tryz.prog 114 #[.pointer (some ⟨b,0,none⟩)] (fun x:Ent × Value=>#[entV x.1 x.2]) (KeepC b) (fun A B=>Below A.heap.size A B)
  (fun W=>W.heap[b]? = some (.cells #[.string ⟨m.toArray⟩,v] 24 (0,0))∧TabsA W∧Row W v l.length (opc l)) (fun x W=>x.1∈namedE m (pagesS l)∧WRow W b x.2 x.1.args.length (opc x.1.args))
  (fun xs=>xs.map Prod.fst=namedE m (pagesS l)) (fun pre=>pre.map Prod.fst <+: namedE m (pagesS l)) (namedE m (pagesS l)).length:=by
 intro lp J Jx W hR hJ hJx hY h0
 obtain ⟨hblk,hT,hrow⟩:=hR
 have hpg:=fun X (hb:Below W.heap.size W X)=>pages_any m v l X (hrow.below hb) hl
 obtain ⟨hp1,hp2,hp3⟩:=pagesS_ok l
 have hnm:=fun X a c (hb:Below W.heap.size W X) hr=>namedE_any m a c (pagesS l) X (hT.below hb) hp1 (by omega) hp3 hr
 obtain ⟨ps,hps⟩:∃ ps,pagesS l=ps:=⟨_,rfl⟩
 simp only [hps] at hpg hnm hY ⊢
 obtain ⟨es,hes⟩:∃ es,namedE m ps=es:=⟨_,rfl⟩
 simp only [hes] at hnm hY ⊢
 clear hp1 hp2 hp3 hps hes
 have HPG:=Hh hpg; clear hpg
 have HNM:=Hh hnm; clear hnm
 have HJ:=Hh hJ; clear hJ
 have HY:=Hh hY; clear hY
 have H0:=Hh h0; clear h0
 obtain ⟨a,c,rfl,_,_⟩:=hrow
 obtain ⟨t0,t1,_,_⟩:=cells2 hblk
 have hbl:=blk_lt hblk
 have hK:∀ X,Below W.heap.size W X→X.cell? ⟨b,0,none⟩=some (.string ⟨m.toArray⟩)∧X.cell? ⟨b,1,none⟩=some (.slice a l.length c):=fun X hb=>⟨(hb.cell (p:=⟨b,0,none⟩) hbl).trans t0,(hb.cell (p:=⟨b,1,none⟩) hbl).trans t1⟩
 have HK:=Hh hK; clear hK hblk hT
 refine callsIn_of_wp Tryz.func114 rfl trivial ?_ rfl
 simp only [Tryz.ntmps114,List.size_toArray,List.length_cons,List.length_nil,Nat.reduceAdd,Nat.reduceSub,Array.replicate_succ,Array.replicate_zero,List.push_toArray,List.append_toArray,List.nil_append,List.cons_append]
 gi_wp2
 refine wpIn_wide.2 ?_
 have hd:Below W.heap.size W W.drew:=bl
 go_region_held3 (fun w'=>w'.cell? ⟨b,0,none⟩=some (.string ⟨m.toArray⟩)∧w'.cell? ⟨b,1,none⟩=some (.slice a l.length c)) (first | exact ⟨t0,t1⟩ | exact K4 | exact K5) (first | ((with_reducible refine (HPG.out _ hd).mono ?_); rintro e w4 ⟨a4,c4,rfl,hr4,hb4⟩; have hbw4:Below W.heap.size W w4:=hd.trans hb4; have K4:=HK.out w4 hbw4) | ((with_reducible refine (HNM.out _ _ _ hbw4 hr4).mono ?_); rintro e w5 ⟨v5,vs,rfl,hvs,hen,hb5⟩; obtain ⟨a5,c5,rfl⟩:=owns_slice hen.own; have hbw5:Below W.heap.size W w5:=hbw4.trans (hb5.mono hbw4.size); have K5:=HK.out w5 hbw5))
 have hlw:W.heap.size≤w4.heap.size:=hbw4.size
 have HE5:=Hh hen.rows
 have hj5:=HJ.out _ _ _ H0.out hbw5
 have HJ5:=Hh hj5
 have HVS:=Hh hvs
 have hes:es.length=vs.length:=by rw [←hvs,List.length_map]
 have HLEN:=Hh hes
 have hbb:b≤w4.heap.size:=by omega
 have HBB:=Hh hbb
 have hml:vs.length≤maxLen:=owns_len hen.own
 unfold maxLen at hml
 clear hd hr4 hb4 hbw4 K4 hvs hb5 hen hbw5 K5 hj5 hes hlw hbb t0 t1 H0
 gi_wp2
 gi_loopg [11] (vs.length+1) (fun k i wr=>∃ j:Nat,j≤vs.length∧i=.int .i64 j∧Hid (EntsR wr w4.heap.size (.slice a5 vs.length c5) vs)∧Hid (J (vs.take j) wr)∧vs.length - j<k)
 case atStart=>exact ⟨0,Nat.zero_le _,rfl,HE5,HJ5,by omega⟩
 case round =>
  obtain ⟨j,hj,rfl,HE,HJR,hk⟩:=hrel
  by_cases hlt:j<vs.length
  · obtain ⟨x,hx⟩:∃ x,vs[j]? = some x:=⟨_,List.getElem?_eq_getElem hlt⟩
    obtain ⟨_,_,hv,hcap,hh⟩:=HE.out.get
    cases hv
    obtain ⟨g,o,rfl,hg,hh⟩:=hh (by rintro rfl; exact absurd hlt (Nat.not_lt_zero _))
    obtain ⟨k0,k1,k2,k3,k4,k5⟩:=hh j x hx
    have harg:=HE.out.args x (List.mem_of_getElem? hx)
    have hmem:x.1∈es:=by rw [←HVS.out]; exact List.mem_map_of_mem (List.mem_of_getElem? hx)
    have htk:vs.take (j+1)=vs.take j++[x]:=by rw [List.take_add_one,hx]; rfl
    have hi0:(0:Int)≤(j:Int):=by omega
    have hi1:(j:Int)<(vs.length:Int):=by omega
    have hcc:(vs.length:Int)≤(c5:Int):=by omega
    obtain ⟨⟨page,op,mn,args,ex,al⟩,vx⟩:=x
    dsimp only at k0 k1 k2 k3 k4 k5 harg hmem
    obtain ⟨ax,cx,rfl,hcx,_⟩:=harg.op
    have hal:Below wr.heap.size wr (wr.alloc (.cells #[.int .i64 page,.int .u8 op,.string ⟨mn.toArray⟩,.slice ax args.length cx,.string ⟨ex.toArray⟩,.bool al] 41)):=(Below.refl _ _).alloc (Nat.le_refl _) _
    have hYA:=HY.out (vs.take j) (⟨page,op,mn,args,ex,al⟩,.slice ax args.length cx) (wr.alloc (.cells #[.int .i64 page,.int .u8 op,.string ⟨mn.toArray⟩,.slice ax args.length cx,.string ⟨ex.toArray⟩,.bool al] 41)) (HJ.out _ _ _ HJR.out hal) ⟨hmem,(harg.below hal).mono HBB.out⟩ (by rw [List.length_take,HLEN.out]; omega)
    obtain ⟨fn,tmps,assign,body,hy,hR⟩:=hYA
    have HR:=Hh hR
    have HTK:=Hh htk
    have HEA:=Hh (HE.out.keepC (keepC_below (b:=b) hal) HBB.out)
    clear hh harg hmem htk hal hR hx
    gi_wp2
    refine HR.out.mono ?_
    rintro e W7 (⟨rfl,hJ7,hk7⟩ | ⟨rfl,hJx7⟩)
    · have HE7:=Hh (HEA.out.keepC hk7 HBB.out)
      have HJ7:=Hh hJ7
      clear hJ7 hk7
      gi_wp2
      gi_roundg (vs.length - j)
      case measure=>exact hk
      case rel=>exact ⟨j+1,by omega,by go_num,HE7,Hh (by rw [HTK.out]; exact HJ7.out),by omega⟩
    · have HX7:=Hh hJx7
      clear hJx7
      gi_wp2
      refine bodyPost_ret (results_none rfl _ _ _) rfl ?_
      exact ⟨⟨_,rfl⟩,.inr ⟨vs.take (j+1),by rw [←HVS.out,List.map_take]; exact List.take_prefix _ _,by rw [HTK.out]; exact HX7.out⟩⟩
  · obtain rfl:j=vs.length:=by omega
    gi_wp2
    go_end0
    exact ⟨⟨_,rfl⟩,.inl ⟨vs,HVS.out,by have:=HJR.out; rwa [List.take_length] at this⟩⟩
end Go.Proofs.YtkldoojonnkfgaaGreatDoor
namespace Go.Proofs.YtkldoojonnkfgaaGreatDoor
open Go.RowKit Go.Sort
def takeV (t:Option (Nat × Int × Int)) (s:List UInt8 × List Op3):Int × List UInt8 × List Op3 :=
 match t with
 | none=>(0,s)
 | some (k,lo,hi)=>if (decide (lo≤numAt s.2 k) && decide (numAt s.2 k≤hi))=true then (numAt s.2 k,s.1,zeroAt s.2 k) else (numAt s.2 k,[],s.2)
def dT (e:Ent):Option (Nat × Int × Int):=(dIdx e).map fun k=>(k,-128,127)
def nT (e:Ent):Option (Nat × Int × Int):=(nIdx e).map fun x=>(x.1,(boundsC x.2).1,(boundsC x.2).2)
theorem fitTake_none (s:List UInt8 × List Op3):takeV none s=(0,s):=rfl
theorem fitTake_some (k:Nat) (lo hi:Int) (m:List UInt8) (l:List Op3):takeV (some (k,lo,hi)) (m,l)=if (decide (lo≤numAt l k) && decide (numAt l k≤hi))=true then (numAt l k,m,zeroAt l k) else (numAt l k,[],l):=rfl
theorem take_len (t:Option (Nat × Int × Int)) (s:List UInt8 × List Op3):(takeV t s).2.2.length=s.2.length:=by
 unfold takeV
 cases t with
 | none=>rfl
 | some x =>
   obtain ⟨k,lo,hi⟩:=x
   dsimp only
   split
   · exact zero_len _ _
   · rfl
theorem bounds_d:(boundsC 100).1=-128∧(boundsC 100).2=127:=by unfold boundsC; simp
theorem fits_take (e:Ent) (m:List UInt8) (l:List Op3) (hs:shapedP e (m,l)=true) (hm:m≠[]) :
 fitsV e (m,l)=if (takeV (nT e) (takeV (dT e) (m,l)).2).2.1=e.mn∧(takeV (nT e) (takeV (dT e) (m,l)).2).2.2=e.args then some ((takeV (dT e) (m,l)).1,(takeV (nT e) (takeV (dT e) (m,l)).2).1) else none:=by
 have hmn:e.mn=m:=by
  unfold shapedP at hs
  simp only [Bool.and_eq_true,decide_eq_true_eq] at hs
  exact hs.1
 have hne:([]:List UInt8)≠m:=fun q=>hm q.symm
 unfold fitsV
 rw [if_neg (by rw [hs]; decide)]
 unfold dPart nPart dT nT
 have hw:∀ c n,withinP c n=(decide ((boundsC c).1≤n) && decide (n≤(boundsC c).2)):=within_bounds
 have hb:=bounds_d
 rw [hmn]
 cases hd:dIdx e with
 | none =>
   cases hn:nIdx e with
   | none=>simp [fitTake_none]
   | some x =>
     obtain ⟨k,c⟩:=x
     simp only [fitTake_none,fitTake_some,Option.map_none,Option.map_some,hw,Bool.true_and]
     obtain ⟨B,hB⟩:∃ B,(decide ((boundsC c).1≤numAt l k) && decide (numAt l k≤(boundsC c).2))=B:=⟨_,rfl⟩
     simp only [hB]
     cases B<;>simp [hne]
 | some d =>
   simp only [fitTake_some,Option.map_some,hw,hb.1,hb.2]
   obtain ⟨A,hA⟩:∃ A,(decide ((-128:Int)≤numAt l d) && decide (numAt l d≤127))=A:=⟨_,rfl⟩
   simp only [hA]
   cases hn:nIdx e with
   | none=>cases A<;>simp [fitTake_none,hne]
   | some x =>
     obtain ⟨k,c⟩:=x
     simp only [Option.map_some]
     cases A with
     | true =>
       simp only [if_true,Bool.true_and,fitTake_some]
       obtain ⟨B,hB⟩:∃ B,(decide ((boundsC c).1≤numAt (zeroAt l d) k) && decide (numAt (zeroAt l d) k≤(boundsC c).2))=B:=⟨_,rfl⟩
       simp only [hB]
       cases B<;>simp [hne]
     | false =>
       simp only [Bool.false_eq_true,if_false,Bool.false_and,fitTake_some]
       obtain ⟨B,hB⟩:∃ B,(decide ((boundsC c).1≤numAt l k) && decide (numAt l k≤(boundsC c).2))=B:=⟨_,rfl⟩
       simp only [hB]
       cases B<;>simp [hne]
set_option maxRecDepth 100000 in
theorem ops_upper:opsL.all (fun m=>decide ((upper ⟨m.toArray⟩).data.toList=m) && decide (m≠[]) && decide (m.length≤4))=true:=by decide +kernel
theorem ops_up {m:List UInt8} (h:m∈opsL):upper ⟨m.toArray⟩=⟨m.toArray⟩∧m≠[]∧m.length≤4:=by
 have:=List.all_eq_true.1 ops_upper m h
 simp only [Bool.and_eq_true,decide_eq_true_eq] at this
 refine ⟨?_,this.1.2,this.2⟩
 apply ByteArray.ext
 apply Array.toList_inj.1
 rw [this.1.1]
end Go.Proofs.YtkldoojonnkfgaaGreatDoor
namespace Go.Proofs.YtkldoojonnkfgaaGreatDoor
open Go.RowKit Go.Sort
theorem namedAt_mem {p op:Nat} {mn:List UInt8} {e:Ent} (hp:p<7) (ho:op<256) (h:namedAt p mn op=some e):e.mn=mn∧e.args.length≤3:=by
 unfold namedAt at h
 split at h
 · cases h
 · split at h
   · cases h
   · rename_i r hr
     split at h
     · rename_i hm
       have hok:=ent_ok hp ho h
       obtain ⟨r2,h1,h2,_,_⟩:=entOk_rule hok
       rw [hr] at h1
       cases h1
       exact ⟨h2.symm.trans hm,(entOk_parts hok).2.1⟩
     · cases h
theorem namedE_mem {mn:List UInt8} {ps:List Nat} {e:Ent} (hp:∀ p∈ps,p<7) (h:e∈namedE mn ps):e.mn=mn∧e.args.length≤3:=by
 unfold namedE at h
 obtain ⟨p,hpm,h⟩:=List.mem_flatMap.1 h
 obtain ⟨op,ho,h⟩:=List.mem_filterMap.1 h
 exact namedAt_mem (hp p hpm) (List.mem_range.1 ho) h
theorem pages_ok2:∀ l:List Op3,(∀ o∈l,∃ n,opValid o.1 o.2.1 n=true)→pagesS l=pagesP l
 | [],_=>rfl
 | o::l,h=>by
   have ih:=pages_ok2 l fun x hx=>h x (List.mem_cons_of_mem _ hx)
   obtain ⟨n,hn⟩:=h o List.mem_cons_self
   have ho:=idx_ok hn
   unfold pagesS pagesP
   rw [ho,ih]
theorem check_parts {i:Ins2} (h:checkP i=0):i.1∈opsL∧i.2.length≤3∧∀ o∈i.2,opValid o.1 o.2.1 o.2.2=true:=by
 unfold checkP at h
 split at h
 · cases h
 · rename_i h1
   split at h
   · cases h
   · rename_i h2
     split at h
     · cases h
     · rename_i h3
       refine ⟨Decidable.not_not.1 h1,by omega,fun o ho=>?_⟩
       rw [List.any_eq_true] at h3
       cases hb:opValid o.1 o.2.1 o.2.2 with
       | true=>rfl
       | false=>exact absurd ⟨o,ho,by rw [hb]; rfl⟩ h3
theorem a_valid:opValid 1 7 0=true:=by decide +kernel
theorem canon_pages {i:Ins2} (h:checkP i=0):pagesS (canonP i).2=pagesP (canonP i).2:=by
 obtain ⟨_,_,hv⟩:=check_parts h
 apply pages_ok2
 intro o ho
 rcases canonP_mem ho with rfl | ⟨x,hx,h1,h2⟩
 · exact ⟨0,a_valid⟩
 · exact ⟨x.2.2,by rw [h1,h2]; exact hv x hx⟩
theorem exP_len (m:List UInt8) (l:List Op3):(exP m l).length=l.length:=by
 unfold exP
 split
 · rename_i h; rw [h.2]; rfl
 · rfl
theorem accP_len (i:Ins2):(accP i).length≤i.2.length+1:=by
 unfold accP
 split
 · rw [List.length_tail]; omega
 · split
   · simp
   · omega
theorem canonP_len (i:Ins2):(canonP i).2.length≤i.2.length+1:=by
 unfold canonP
 dsimp only
 rw [List.length_map,exP_len]
 exact accP_len i
theorem scan_skip {f:Ent→Bool} {c:Ins2} {e:Ent} (h:(e.alias || !shapedP e c)=true) (l:List Ent) (code:Int):scanC f c (e::l) code=scanC f c l code:=by
 show (if _ then _ else _)=_
 rw [if_pos h]
theorem scan_hit {f:Ent→Bool} {c:Ins2} {e:Ent} (h:(e.alias || !shapedP e c)=false) (hf:f e=true) (l:List Ent) (code:Int):scanC f c (e::l) code=(some e,0):=by
 show (if _ then _ else if _ then _ else _)=_
 rw [if_neg (by rw [h]; decide),if_pos hf]
theorem scan_miss {f:Ent→Bool} {c:Ins2} {e:Ent} (h:(e.alias || !shapedP e c)=false) (hf:f e=false) (l:List Ent) (code:Int):scanC f c (e::l) code=scanC f c l 2:=by
 show (if _ then _ else if _ then _ else _)=_
 rw [if_neg (by rw [h]; decide),if_neg (by rw [hf]; decide)]
end Go.Proofs.YtkldoojonnkfgaaGreatDoor
namespace Go.Proofs.YtkldoojonnkfgaaGreatDoor
open Go.RowKit Go.Sort
def TakeF (t:Option (Nat × Int × Int)) (w:World) (k:Int) (f:Value) (there:Bool) (n:Nat):Prop :=
 match t with
 | none=>there=false∧(f=.nilFunc∨∃ fn b1 b2,f=.func (.func fn) #[] #[.pointer (some ⟨b1,0,none⟩),.pointer (some ⟨b2,0,none⟩)])
 | some (k',lo,hi)=>there=true∧k=k'∧InF w 0 lo hi f∧k'<n
theorem fitsC_take (t:Option (Nat × Int × Int)) (k:Int) (f:Value) (there:Bool) (b base:Nat) (m:List UInt8) (v:Value) (l:List Op3) (w:World) (ht:TakeF t w k f there l.length) (hb:w.heap[b]? = some (.cells #[.string ⟨m.toArray⟩,v] 24 (0,0))) (hr:WRow w base v l.length (opc l)) (hbb:v.ownBlock≠some b) (hl:l.length≤1000) :
 Calls Tryz.prog 119 #[.agg #[.int .i64 k,f],.bool there,.pointer (some ⟨b,0,none⟩)] w fun e w'=>e=.returned (.int .i64 (takeV t (m,l)).1)∧w'.heap[b]? = some (.cells #[.string ⟨(takeV t (m,l)).2.1.toArray⟩,v] 24 (0,0))∧WRow w' base v l.length (opc (takeV t (m,l)).2.2)∧Below (min b base) w w':=by
 cases t with
 | none =>
   obtain ⟨rfl,hf⟩:=ht
   refine (fitsC_no _ f k b w rfl hf).mono ?_
   rintro e w' ⟨rfl,hbel⟩
   exact ⟨rfl,blk_below hb hbel (blk_lt hb),hr.below hbel,hbel.mono (by have:=blk_lt hb; omega)⟩
 | some x =>
   obtain ⟨k',lo,hi⟩:=x
   obtain ⟨rfl,rfl,hin,hk⟩:=ht
   obtain ⟨o,ho⟩:∃ o,l[k']? = some o:=⟨_,List.getElem?_eq_getElem hk⟩
   have hn:numAt l k'=o.2.2:=by unfold numAt; simp [List.getD,ho]
   have hz:zeroAt l k'=l.set k' (o.1,o.2.1,0):=by unfold zeroAt; rw [ho]
   cases hc:(decide (lo≤o.2.2) && decide (o.2.2≤hi)) with
   | true =>
     have hT:takeV (some (k',lo,hi)) (m,l)=(o.2.2,m,l.set k' (o.1,o.2.1,0)):=by unfold takeV; dsimp only; rw [hn,hc,hz]; rfl
     rw [hT]
     exact fitsC_in lo hi f k' b base m v l o w hin hb hr hbb hl ho hc
   | false =>
     have hT:takeV (some (k',lo,hi)) (m,l)=(o.2.2,[],l):=by unfold takeV; dsimp only; rw [hn,hc]; rfl
     rw [hT]
     exact fitsC_out lo hi f k' b base m v l o w hin hb hr hbb hl ho hc
theorem disp_take (e:Ent) (w:World) (f:Value) (h:InF w 0 (-128) 127 f):TakeF (dT e) w (lastI [5] e.args) f (decide (100∈e.extra) && decide (0≤lastI [5] e.args)) e.args.length:=by
 rw [disp_ok]
 unfold dT
 cases hd:dIdx e with
 | none =>
   obtain ⟨b1,b2,rfl,_⟩:=h
   exact ⟨rfl,.inr ⟨_,_,_,rfl⟩⟩
 | some k =>
   obtain ⟨h1,h2⟩:=disp_at hd
   exact ⟨rfl,h1,h,h2⟩
theorem numb_take (e:Ent) (w:World) (f:Value) (h1:∀ lo hi,(numSpec e.extra e.args).2=some (lo,hi)→InF w 0 lo hi f) (h2:(numSpec e.extra e.args).2=none→f=.nilFunc):TakeF (nT e) w (numSpec e.extra e.args).1 f ((numSpec e.extra e.args).2.isSome && decide (0≤(numSpec e.extra e.args).1)) e.args.length:=by
 rw [numb_ok]
 unfold nT
 cases hd:nIdx e with
 | none =>
   refine ⟨rfl,?_⟩
   cases hs:(numSpec e.extra e.args).2 with
   | none=>exact .inl (h2 hs)
   | some x =>
     obtain ⟨b1,b2,rfl,_⟩:=h1 x.1 x.2 hs
     exact .inr ⟨_,_,_,rfl⟩
 | some x =>
   obtain ⟨k,c⟩:=x
   obtain ⟨h3,h4,h5⟩:=numb_at hd
   exact ⟨rfl,h3,h1 _ _ h4,h5⟩
end Go.Proofs.YtkldoojonnkfgaaGreatDoor
namespace Go.Proofs.YtkldoojonnkfgaaGreatDoor
open Go.RowKit Go.Sort
def fitV (o:Option (Int × Int)):Value:=match o with | some (d,n)=>.tuple #[.int .i64 d,.int .i64 n,.bool true] | none=>.tuple #[.int .i64 0,.int .i64 0,.bool false]
theorem InF.mono {w:World} {b b':Nat} {lo hi:Int} {f:Value} (h:InF w b lo hi f) (hb:b'≤b):InF w b' lo hi f:=by
 obtain ⟨b1,b2,h1,h2,h3,h4⟩:=h
 exact ⟨b1,b2,h1,by omega,by omega,h4⟩
theorem shaped_len {E:Ent} {m:List UInt8} {l:List Op3} (h:shapedP E (m,l)=true):E.args.length=l.length∧E.mn=m:=by
 unfold shapedP at h
 simp only [Bool.and_eq_true,decide_eq_true_eq] at h
 exact ⟨shape_len h.2,h.1⟩
theorem own_ne2 {w:World} {base n size:Nat} {e:TypeId} {v:Value} {xs:List Value} (h:w.ownsRow base e size v n xs):v.ownBlock≠some w.heap.size:=fun e=>by
 have:=(h.lt _ e).2
 omega
set_option maxRecDepth 100000 in
set_option maxHeartbeats 4000000 in
theorem sfits_no (E:Ent) (ve:Value) (m:List UInt8) (v:Value) (l:List Op3) (w:World) (he:Row w ve E.args.length (opc E.args)) (hr:Row w v l.length (opc l)) (hel:E.args.length≤1000) (hem:E.mn.length≤1000) (hl:l.length≤1000) (hm:m.length≤1000) (hs:shapedP E (m,l)=false) :
 Calls Tryz.prog 54 #[entV E ve,insV m v] w fun e w'=>e=.returned (fitV none)∧Below w.heap.size w w':=by
 have hsh:=fun X (hb:Below w.heap.size w X)=>shaped_any E ve m v l X (he.below hb) (hr.below hb) hel hem hl hm
 rw [hs] at hsh
 obtain ⟨page,op,mn,args,ex,al⟩:=E
 dsimp only at he hel hem hsh
 obtain ⟨a,c,rfl,_,_⟩:=hr
 obtain ⟨ae,ce,rfl,_,_⟩:=he
 have HS:=Hh hsh; clear hsh hs
 show Calls Tryz.prog 54 #[.agg #[.int .i64 page,.int .u8 op,.string ⟨mn.toArray⟩,.slice ae args.length ce,.string ⟨ex.toArray⟩,.bool al],.agg #[.string ⟨m.toArray⟩,.slice a l.length c]] w _
 go_enter Tryz.func54,Tryz.ntmps54
 go_wp2_with fail
 have hbW:Below w.heap.size w ((w.alloc (.cells #[.int .i64 page,.int .u8 op,.string ⟨mn.toArray⟩,.slice ae args.length ce,.string ⟨ex.toArray⟩,.bool al] 41)).alloc (.cells #[.string ⟨m.toArray⟩,.slice a l.length c] 24)):=((Below.refl _ _).alloc (Nat.le_refl _) _).alloc (by simp) _
 refine (HS.out _ hbW).mono ?_
 rintro e w1 ⟨rfl,hb1⟩
 have HB:=Hh (hbW.trans (hb1.mono hbW.size)); clear hbW hb1
 go_wp2_with fail
 refine bodyPost_ret (v:=fitV none) (by simp [results,Tryz.results54,go_sem,fitV]) rfl ⟨rfl,HB.out⟩
set_option maxRecDepth 100000 in
set_option maxHeartbeats 8000000 in
theorem sfits_yes (E:Ent) (ve:Value) (m:List UInt8) (v:Value) (l:List Op3) (w:World) (he:Row w ve E.args.length (opc E.args)) (hr:Row w v l.length (opc l)) (hel:E.args.length≤1000) (hem:E.mn.length≤1000) (hl:l.length≤1000) (hm:m.length≤1000) (hup:upper ⟨m.toArray⟩=⟨m.toArray⟩) (hs:shapedP E (m,l)=true)
 (dn nn:Int) (m1 m2:List UInt8) (l1 l2:List Op3) (hd:takeV (dT E) (m,l)=(dn,m1,l1)) (hn:takeV (nT E) (m1,l1)=(nn,m2,l2)) (r:Bool) (hres:decide (m2=E.mn∧l2=E.args)=r) :
 Calls Tryz.prog 54 #[entV E ve,insV m v] w fun e w'=>e=.returned (fitV (if r=true then some (dn,nn) else none))∧Below w.heap.size w w':=by
 have hsh:=fun X (hb:Below w.heap.size w X)=>shaped_any E ve m v l X (he.below hb) (hr.below hb) hel hem hl hm
 rw [hs] at hsh
 have hlen:=(shaped_len hs).1
 have hl1:l1.length=l.length:=by have:=take_len (dT E) (m,l); rw [hd] at this; exact this
 have hl2:l2.length=l.length:=by have:=take_len (nT E) (m1,l1); rw [hn] at this; exact this.trans hl1
 have hdis:=fun X (hb:Below w.heap.size w X)=>displaced_any E ve X (he.below hb) hel
 have hnum:=fun X (hb:Below w.heap.size w X)=>numbered_any E ve X (he.below hb) hel
 unfold NumRes at hnum
 have hdt:=fun X f h=>disp_take E X f h
 have hnt:=fun X f h1 h2=>numb_take E X f h1 h2
 have hmk:=fun X (hb:Below w.heap.size w X)=>make_any ⟨m.toArray⟩ v l X (by show m.toArray.size≤maxLen; rw [List.size_toArray]; unfold maxLen; omega) (hr.below hb) (by omega)
 rw [hup] at hmk
 have hcd:=fun X k f t b base v'=>fitsC_take (dT E) k f t b base m v' l X
 rw [hd] at hcd
 have hcn:=fun X k f t b base v'=>fitsC_take (nT E) k f t b base m1 v' l1 X
 rw [hn] at hcn
 have hsame:=fun X v' (hb:Below w.heap.size w X) h=>same7_any m2 E.mn v' ve l2 E.args X h (he.below hb) (by omega) (by omega)
 rw [hres] at hsame
 rw [hlen] at hdt hnt
 rw [hl1] at hcn
 rw [hl2] at hsame
 dsimp only at hcd hcn
 generalize lastI [5] E.args=kd at *
 generalize (decide ((100:UInt8)∈E.extra) && decide (0≤kd))=td at *
 generalize (numSpec E.extra E.args)=ns at *
 generalize (ns.2.isSome && decide (0≤ns.1))=tn at *
 generalize ns.1=kn at *
 generalize dT E=DT at *
 generalize nT E=NT at *
 obtain ⟨page,op,mn,args,ex,al⟩:=E
 dsimp only at he hel hem hsh hlen hsame
 obtain ⟨a,c,rfl,_,_⟩:=hr
 obtain ⟨ae,ce,rfl,_,_⟩:=he
 have HS:=Hh hsh; clear hsh hs
 have HDIS:=Hh hdis; clear hdis
 have HNUM:=Hh hnum; clear hnum
 have HDT:=Hh hdt; clear hdt
 have HNT:=Hh hnt; clear hnt
 have HMK:=Hh hmk; clear hmk
 have HCD:=Hh hcd; clear hcd
 have HCN:=Hh hcn; clear hcn
 have HSAME:=Hh hsame; clear hsame
 have HL1:=Hh hl1; have HL2:=Hh hl2; have HLEN:=Hh hlen
 clear hl1 hl2 hlen hd hn hres hup
 show Calls Tryz.prog 54 #[.agg #[.int .i64 page,.int .u8 op,.string ⟨mn.toArray⟩,.slice ae args.length ce,.string ⟨ex.toArray⟩,.bool al],.agg #[.string ⟨m.toArray⟩,.slice a l.length c]] w _
 go_enter Tryz.func54,Tryz.ntmps54
 go_wp2_with fail
 have hbW:Below w.heap.size w ((w.alloc (.cells #[.int .i64 page,.int .u8 op,.string ⟨mn.toArray⟩,.slice ae args.length ce,.string ⟨ex.toArray⟩,.bool al] 41)).alloc (.cells #[.string ⟨m.toArray⟩,.slice a l.length c] 24)):=((Below.refl _ _).alloc (Nat.le_refl _) _).alloc (by simp) _
 have h0:((w.alloc (.cells #[.int .i64 page,.int .u8 op,.string ⟨mn.toArray⟩,.slice ae args.length ce,.string ⟨ex.toArray⟩,.bool al] 41)).alloc (.cells #[.string ⟨m.toArray⟩,.slice a l.length c] 24)).heap[w.heap.size]? = some (.cells #[.int .i64 page,.int .u8 op,.string ⟨mn.toArray⟩,.slice ae args.length ce,.string ⟨ex.toArray⟩,.bool al] 41 (0,0)):=blk_alloc (blk_new _ _)
 have h1:=blk_new (w.alloc (.cells #[.int .i64 page,.int .u8 op,.string ⟨mn.toArray⟩,.slice ae args.length ce,.string ⟨ex.toArray⟩,.bool al] 41)) (.cells #[.string ⟨m.toArray⟩,.slice a l.length c] 24)
 rw [World.size_alloc] at h1
 refine (HS.out _ hbW).mono ?_
 rintro e w1 ⟨rfl,hb1⟩
 have h01:=blk_below h0 hb1 (by simp; omega)
 have h11:=blk_below h1 hb1 (by simp)
 have hbw1:=hbW.trans (hb1.mono hbW.size)
 have hl11:=blk_lt h11
 obtain ⟨r0,r1,_,_⟩:=cells2 h11
 have H01:=Hh h01
 have HB1:=Hh hbw1
 clear hbW h0 h1 hb1 h01 hbw1
 go_wp2_with fail
 refine (HMK.out _ HB1.out).mono ?_
 rintro e w2 ⟨v2,rfl,hown2,hb2⟩
 obtain ⟨a2,c2,rfl⟩:=owns_slice hown2
 have h02:=blk_below H01.out hb2 (by omega)
 have hbw2:=HB1.out.trans (hb2.mono HB1.out.size)
 have hs12:=hb2.size
 have hne:=own_ne2 hown2
 have hrow2:=(WRow.of_owns hown2).mono (b':=w.heap.size+1+1) (by omega)
 clear r0 r1 h11 H01 HB1 hown2 hb2
 have h03:=blk_alloc (o':=.cells #[.string ⟨m.toArray⟩,.slice a2 l.length c2] 24) h02
 have hr3:=blk_new w2 (.cells #[.string ⟨m.toArray⟩,.slice a2 l.length c2] 24)
 have hal:=(Below.refl w2.heap.size w2).alloc (Nat.le_refl _) (.cells #[.string ⟨m.toArray⟩,.slice a2 l.length c2] 24)
 have hbw3:=hbw2.trans (hal.mono hbw2.size)
 have hrow3:=hrow2.below hal
 have hwb:w.heap.size+1+1≤w2.heap.size:=by omega
 have hsz3:w2.heap.size<(w2.alloc (.cells #[.string ⟨m.toArray⟩,.slice a2 l.length c2] 24)).heap.size:=by rw [World.size_alloc]; omega
 obtain ⟨b,hbe⟩:∃ b,w2.heap.size=b:=⟨_,rfl⟩
 have HBE:=Hh hbe
 have HWB:=Hh hwb
 have HNE:=Hh hne
 obtain ⟨⟨x0,x1,x2,x3,x4,x5⟩,_⟩:=cells6 h02
 have hl2:w.heap.size<b:=by omega
 have hl2n:¬ w.heap.size=b:=by omega
 clear h02 hbw2 hne hrow2 hs12 hl11 hwb hal
 go_wp2_with fail
 obtain ⟨W3,hW3⟩:∃ W3,(w2.alloc (.cells #[.string ⟨m.toArray⟩,.slice a2 l.length c2] 24))=W3:=⟨_,rfl⟩
 rw [hW3] at h03 hr3 hbw3 hrow3 hsz3 ⊢
 rw [hbe] at hr3 hsz3 HWB HNE
 have hww:=HWB.out
 clear hW3 hbe x0 x1 x2 x3 x4 x5 hl2 hl2n
 have hl0:w.heap.size<W3.heap.size:=by omega
 have H03:=Hh h03; have HR3:=Hh hr3; have HBW3:=Hh hbw3; have HROW3:=Hh hrow3
 clear h03 hr3 hbw3 hrow3
 (with_reducible refine (HDIS.out _ HBW3.out).mono ?_)
 rintro e w4 ⟨f,rfl,hin,hb4⟩
 have hin4:=HDT.out w4 f (hin.mono (Nat.zero_le _))
 have h04:=blk_below H03.out hb4 hl0
 have hr4:=blk_below HR3.out hb4 hsz3
 have hrow4:=HROW3.out.below hb4
 have hbw4:=HBW3.out.trans (hb4.mono HBW3.out.size)
 have hcd4:=HCD.out w4 _ f _ b (w.heap.size+1+1) (.slice a2 l.length c2) hin4 hr4 hrow4 HNE.out hl
 have HCD4:=Hh hcd4
 have H04:=Hh h04; have HBW4:=Hh hbw4
 clear hin hin4 h04 hr4 hrow4 hbw4 hb4 hcd4
 go_wp2_with fail
 (with_reducible refine HCD4.out.mono ?_)
 rintro e w5 ⟨rfl,hr5,hrow5,hb5⟩
 have h05:=blk_below H04.out hb5 (by have:=HWB.out; omega)
 have hbw5:=HBW4.out.trans (hb5.mono (by have:=HWB.out; omega))
 obtain ⟨⟨x0,x1,x2,x3,x4,x5⟩,_⟩:=cells6 h05
 have hl5:=blk_lt h05
 have hlb5:=blk_lt hr5
 have H05:=Hh h05; have HR5:=Hh hr5; have HROW5:=Hh hrow5; have HBW5:=Hh hbw5
 clear h05 hr5 hrow5 hbw5 hb5
 go_wp2_with fail
 (with_reducible refine (HNUM.out _ HBW5.out).mono ?_)
 rintro e w6 ⟨f2,rfl,hf1,hf2,hb6⟩
 have hin6:=HNT.out w6 f2 (fun lo hi q=>(hf1 lo hi q).mono (Nat.zero_le _)) hf2
 have h06:=blk_below H05.out hb6 hl5
 have hr6:=blk_below HR5.out hb6 hlb5
 have hrow6:=HROW5.out.below hb6
 have hbw6:=HBW5.out.trans (hb6.mono HBW5.out.size)
 have hcn6:=HCN.out w6 _ f2 _ b (w.heap.size+1+1) (.slice a2 l.length c2) hin6 hr6 hrow6 HNE.out hl
 have HCN6:=Hh hcn6
 have H06:=Hh h06; have HBW6:=Hh hbw6
 clear hf1 hf2 hin6 h06 hr6 hrow6 hbw6 hb6 hcn6 x0 x1 x2 x3 x4 x5
 go_wp2_with fail
 (with_reducible refine HCN6.out.mono ?_)
 rintro e w7 ⟨rfl,hr7,hrow7,hb7⟩
 have h07:=blk_below H06.out hb7 (by have:=HWB.out; omega)
 have hbw7:=HBW6.out.trans (hb7.mono (by have:=HWB.out; omega))
 obtain ⟨⟨x0,x1,x2,x3,x4,x5⟩,_⟩:=cells6 h07
 obtain ⟨y0,y1,_,_⟩:=cells2 hr7
 have HBW7:=Hh hbw7
 have hsm7:=HSAME.out w7 _ hbw7 hrow7.row
 have HSM7:=Hh hsm7
 clear h07 hr7 hrow7 hbw7 hb7 hsm7
 go_wp2_with fail
 (with_reducible refine HSM7.out.mono ?_)
 rintro e w8 ⟨rfl,hb8⟩
 have HB8:=Hh (HBW7.out.trans (hb8.mono HBW7.out.size))
 clear hb8
 cases r with
 | false =>
   go_wp2_with fail
   refine bodyPost_ret (v:=fitV none) (by simp [results,Tryz.results54,go_sem,fitV]) rfl ⟨rfl,HB8.out⟩
 | true =>
   go_wp2_with fail
   refine bodyPost_ret (v:=fitV (some (dn,nn))) (by simp [results,Tryz.results54,go_sem,fitV]) rfl ⟨rfl,HB8.out⟩
theorem sfits_any (E:Ent) (ve:Value) (m:List UInt8) (v:Value) (l:List Op3) (w:World) (he:Row w ve E.args.length (opc E.args)) (hr:Row w v l.length (opc l)) (hel:E.args.length≤1000) (hem:E.mn.length≤1000) (hl:l.length≤1000) (hm:m.length≤1000) (hup:upper ⟨m.toArray⟩=⟨m.toArray⟩) (hne:m≠[]) :
 Calls Tryz.prog 54 #[entV E ve,insV m v] w fun e w'=>e=.returned (fitV (fitsV E (m,l)))∧Below w.heap.size w w':=by
 cases hs:shapedP E (m,l) with
 | false =>
   have:fitsV E (m,l)=none:=by unfold fitsV; rw [if_pos hs]
   rw [this]
   exact sfits_no E ve m v l w he hr hel hem hl hm hs
 | true =>
   rw [fits_take E m l hs hne]
   obtain ⟨d,hd⟩:∃ d,takeV (dT E) (m,l)=d:=⟨_,rfl⟩
   obtain ⟨dn,m1,l1⟩:=d
   obtain ⟨n,hn⟩:∃ n,takeV (nT E) (m1,l1)=n:=⟨_,rfl⟩
   obtain ⟨nn,m2,l2⟩:=n
   rw [hd]
   dsimp only
   rw [hn]
   dsimp only
   have h:=sfits_yes E ve m v l w he hr hel hem hl hm hup hs dn nn m1 m2 l1 l2 hd hn _ rfl
   simpa only [decide_eq_true_eq] using h
end Go.Proofs.YtkldoojonnkfgaaGreatDoor
