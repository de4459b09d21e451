/- Joined. -/
import Derived.Test.YtoigglljnklhlaaGreatDoorD19
set_option maxHeartbeats 8000000
set_option maxRecDepth 100000
namespace Go.Proofs.YtoigglljnklhlaaGreatDoor
open Go.RowKit Go.Sort Go.Shelf
open Go.Proofs.Tryz
attribute [local go_sem] Oper.semAt_some
theorem Tr (n bb:Nat) (hn:1≤n) (b:List UInt8) (a:Option Addr) (c:Nat) (w0:World) (hbb:w0.heap[bb]? = some (.cells #[.slice a b.length c] 33 (0,0))) (hv:Row w0 (.slice a b.length c) b.length (aT b)) (hl:b.length≤100000) (hT:∀ W,Below w0.heap.size w0 W→TabsA W) :
 vS Fence.wide n prog 82 #[.pointer (some ⟨bb,0,none⟩)] (fun x:ItX=>#[itV x.1 x.2.1 x.2.2]) (fun A B=>w0.heap.size≤A.heap.size→Below w0.heap.size A B) (fun A B=>Below A.heap.size A B)
  (fun W=>Below w0.heap.size w0 W) (fun x W=>ItAt w0.heap.size x.1 x.2.1 x.2.2 W) (fun xs=>xs.map Prod.fst=dI b) (fun _=>True) (dI b).length:=by
 intro lp J Jx W hR hJ hJx hY h0;have hbl:=aA hbb;have HAT:=Hh (fun X k (hb:Below w0.heap.size w0 X) hk=>Dh b a c k X (Row.below hv hb) hl hk (fun W' h=>hT W' (hb.trans (h.mono hb.size))));have HCB:=Hh (fun X (hb:Below w0.heap.size w0 X)=>show X.cell? ⟨bb,0,none⟩=some (.slice a b.length c) from aC (aB hbb hb hbl) 0)
 have HR:=Hh hR;have HJ:=Hh hJ;have HY:=Hh hY;have H0:=Hh h0;have HBL:=Hh hbl;clear hR hJ hJx hY h0 hbb hv hT hbl;refine callsIn_of_wp func82 rfl trivial ?_ rfl;simp only[ntmps82,List.size_toArray,List.length_cons,List.length_nil,Nat.reduceAdd,Nat.reduceSub,Array.replicate_succ,Array.replicate_zero,List.push_toArray,List.append_toArray,List.nil_append,List.cons_append];gi_wp2
 gi_loopg [3] (b.length+1) (fun k i wr=>∃ (q:Nat) (pre:List ItX),q≤b.length∧i=.int .i64 q∧Hid (pre.map Prod.fst++dI (b.drop q)=dI b)∧Hid (J pre wr)∧Hid (Below w0.heap.size w0 wr)∧b.length - q<k)
 case atStart=>exact⟨0,[],Nat.zero_le _,rfl,Hh sm,H0,HR,om⟩
 case round =>
  obtain⟨q,pre,hq,rfl,HE,HJR,HB,hk⟩:=hrel;have hcb:=HCB.out wr HB.out;have hcl:bb<wr.heap.size:=Nat.lt_of_lt_of_le HBL.out HB.out.size;by_cases hlt:q<b.length
  · have hat:=HAT.out wr q HB.out hlt;have hne:b.drop q≠[]:=by intro e;have:=congrArg List.length e;simp at this;omega
    have hdc:=pQ (b.drop q) hne;have hrl:=kC (b.drop q) hne;rw[List.drop_drop] at hdc;rw[List.length_drop] at hrl;unfold Ap at hat;have hE:=HE.out;generalize hit:bX (b.drop q)=it at hat hdc hrl;rw[hdc] at hE;have hN:pre.length<(dI b).length:=by rw[←hE];simp
    have HEQ:=Hh hE;have HAT2:=Hh hat;have HN:=Hh hN;obtain⟨hr1,hr2,-⟩:=hrl;clear hat hdc hE hN hit hne HE;gi_wp2_with fail
    refine⟨trivial,?_⟩;refine (callsIn_wide.2 HAT2.out).mono ?_;rintro e w2 ⟨vr,va,rfl,hit,hb2⟩;obtain⟨ki,ra,⟨im,ia⟩,ial⟩:=it;obtain⟨ar,cr,rfl⟩:=aI hit.raw;obtain⟨aa,ca,rfl⟩:=hit.args.slice;dsimp only at hr1 hr2;obtain⟨W3,hW3⟩:∃ W3,w2.alloc (.cells #[.int .i64 ki,.slice ar ra.length cr,.string ⟨im.toArray⟩,.slice aa ia.length ca,.bool ial] 55)=W3:=⟨_,rfl⟩;have hal:Below w2.heap.size w2 W3:=by rw[←hW3];exact br.alloc lr _
    have hb3:=hb2.trans (hal.mono hb2.size);have hbox:W3.heap[w2.heap.size]? = some (.cells #[.int .i64 ki,.slice ar ra.length cr,.string ⟨im.toArray⟩,.slice aa ia.length ca,.bool ial] 55 (0,0)):=by rw[←hW3];exact aF _ _
    have hj3:=HJ.out _ _ _ HJR.out hb3;have hit3:=(hit.mono HB.out.size).below hal;have hYA:=HY.out pre (⟨ki,ra,(im,ia),ial⟩,.slice ar ra.length cr,.slice aa ia.length ca) W3 hj3 hit3 HN.out;obtain⟨fn,tmps,assign,body,hy,hR⟩:=hYA;have HRY:=Hh hR;have HB3:=Hh (HB.out.trans (hb3.mono HB.out.size));obtain⟨⟨q0,q1,q2,q3,q4⟩,_⟩:=bJ hbox;have hlx:=aA hbox;have hq3:(0:Int)≤(q:Int)+(ra.length:Int)∧(q:Int)+(ra.length:Int)≤1000000:=om
    obtain⟨hq30,hq31⟩:=hq3;clear hal hb2 hb3 hbox hj3 hit hit3 hR HAT2 hcb hcl;have HNM:=Hh (And.intro hr1 (And.intro hr2 (And.intro hl hlt)));clear hr1 hr2 hl hlt;dsimp only;have hiv:itV ⟨ki,ra,(im,ia),ial⟩ (.slice ar ra.length cr) (.slice aa ia.length ca)=.agg #[.int .i64 ki,.slice ar ra.length cr,.string ⟨im.toArray⟩,.slice aa ia.length ca,.bool ial]:=rfl;rw[hiv] at hy ⊢;clear hiv;gi_wp2_with fail
    refine HRY.out.mono ?_;rintro e W7 (⟨rfl,hJ7,hk7⟩|⟨rfl,hJx7⟩)
    · have HJ7:=Hh hJ7;have HB7:=Hh (HB3.out.trans (hk7 HB3.out.size));clear hJ7 hk7 q0 q1 q2 q3 q4 hy HRY HB3 hlx hW3;gi_wp2_with fail
      gi_roundg (b.length - q)
      case measure=>exact hk
      case rel =>
       have hnm:=HNM.out;exact⟨q+ra.length,pre++[(⟨ki,ra,(im,ia),ial⟩,.slice ar ra.length cr,.slice aa ia.length ca)],om,by go_num,Hh (by rw[←HEQ.out];simp),HJ7,HB7,om⟩
    · have HX7:=Hh hJx7;clear hJx7 q0 q1 q2 q3 q4 hy HRY HB3 hlx hW3;gi_wp2_with fail
      refine bodyPost_ret (results_none rfl _ _ _) rfl ?_;exact⟨⟨_,rfl⟩,.inr ⟨_,trivial,HX7.out⟩⟩
  · obtain rfl:q=b.length:=om
    have HAT2:=Hh (Di b a c wr);have hE:=HE.out;rw[List.drop_length,zT,List.append_nil] at hE;have HEQ:=Hh hE;clear hE HE;gi_wp2_with fail
    refine⟨trivial,?_⟩;refine (callsIn_wide.2 HAT2.out).mono ?_;rintro e w2 ⟨rfl,hb2⟩;have hal:Below w2.heap.size w2 (w2.alloc (.cells #[.int .i64 0,.slice none 0 0,.string ⟨#[]⟩,.slice none 0 0,.bool false] 55)):=br.alloc lr _;have HJ3:=Hh (HJ.out _ _ _ HJR.out (hb2.trans (hal.mono hb2.size)));clear hal hb2 HAT2 hcb hcl;have hiv:itV ⟨0,[],([],[]),false⟩ (.slice none 0 0) (.slice none 0 0)=.agg #[.int .i64 0,.slice none 0 0,.string ⟨#[]⟩,.slice none 0 0,.bool false]:=rfl;rw[hiv];clear hiv;gi_wp2_with fail
    refine⟨by simp,?_⟩
    gi_wp2_with fail
    refine bodyPost_ret (results_none rfl _ _ _) rfl ?_;exact⟨⟨_,rfl⟩,.inl ⟨pre,HEQ.out,HJ3.out⟩⟩
end Go.Proofs.YtoigglljnklhlaaGreatDoor
namespace Go.Proofs.YtoigglljnklhlaaGreatDoor
open Go.RowKit
variable {F:Fence} {n:Nat} {P:Program}
theorem cM {α:Type} {g:Operand} {ps:Array Tmp} {assign body:Code} {Q:Exit→Act→World→Prop} {a:Act} {w:World}
 (hro:F.round=none) (h1:1≤n) {gf:Nat} {lb:Array Value} (hg:a.eval g=.func (.func gf) #[] lb) (hFg:F.fn gf) (eg:∀ args w,(callFunc gf args).run P w=.ok (.enter gf args) w)
 {encs:α→Array Value} {Kp St:World→World→Prop} {Rdy:World→Prop} {Gv:α→World→Prop} {S Sp:List α→Prop} {N:Nat} (hseq:vS F (n - 1) P gf lb encs Kp St Rdy Gv S Sp N)
 (hrdy:∀ o o',Rdy ((w.alloc o).alloc o')) (hSt:∀ (A B:World) (k:Nat) (o:Obj),St A B→A.heap[k]? = some o→o.isCells=false→o.isWalk=false→B.heap[k]? = some o)
 (hKt:∀ {A B C:World},Kp A B→Kp B C→Kp A C) (hKb:∀ (W:World) (l:Nat) (o o':Obj),w.heap.size≤l→W.heap[l]? = some o→o.isCells=false→o.isWalk=false→Kp W (W.putObj l o')) (hGv:∀ (x:α) (W:World) (l:Nat) (o o':Obj),Gv x W→w.heap.size≤l→W.heap[l]? = some o→o.isCells=false→Gv x (W.putObj l o')) (hps:∀ x,(encs x).size=ps.size)
 (I:List α→World→Prop) (Ix:Code→List α→World→Prop) (hI:OwnFrom w.heap.size I) (hIs:∀ s A B,I s A→St A B→I s B) (hIx:∀ c,OwnFrom w.heap.size (Ix c)) (hIxs:∀ c s A B,Ix c s A→St A B→Ix c s B) (h0:I [] w) (a₁:α→World→Act) (W₁:α→World→World) (Ax:α→Act→World→Prop)
 (hassign:∀ (l:Nat) (x:α) (W:World) (K:Act→World→Prop),Gv x W→K (a₁ x W) (W₁ x W) →
  assign.wpIn (F.inRound l) (n - 1 - 1) P (Exit.then K (fun _ _ _=>False)) { tmps:=(ps.zip (encs x)).foldl (fun t (p,v)=>t.setIfInBounds p v) a.tmps,defers:=[] } W)
 (hW1:∀ x W,St W (W₁ x W)) (hKs:∀ x W,Kp W (W₁ x W)) (hGs:∀ x W,Gv x W→Gv x (W₁ x W)) (hAx0:∀ x W,Ax x (a₁ x W) (W₁ x W)) (hAxp:∀ (x:α) (a':Act) (W:World) (l:Nat) (o o':Obj),Ax x a' W→w.heap.size≤l→W.heap[l]? = some o→o.isCells=false→Ax x a' (W.putObj l o'))
 (hbody:∀ (l:Nat) (pre:List α) (x:α) (a':Act) (W:World),I pre W→Gv x W→Ax x a' W→pre.length<N→body.wpIn (F.inRound l) (n - 1 - 1) P (ownPostK Kp I Ix (pre++[x]) W) a' W)
 (hdone:∀ (D:Nat) (xs:List α) (W:World),w.heap.size≤D→S xs→I xs W→W.heap[D]? = some (.deferred (some []))→Q .normal { a with defers:={ target:=.collected D,args:=#[] }::a.defers } W)
 (hstop:∀ (D:Nat) (c:Code) (pre:List α) (W:World),w.heap.size≤D→Sp pre→Ix c pre W→W.heap[D]? = some (.deferred (some []))→c.wpIn F n P Q { a with defers:={ target:=.collected D,args:=#[] }::a.defers } W) :
 (Code.rangeFunc g ps assign body).wpIn F n P Q a w:=by
 refine wpIn_rangeFunc fun fn hfn=>?_;rw[hro]
 let rc:LoopState→Option Code→Loop:=fun st pe=>{ state:=st,pending:=pe,fn,tmps:=a.tmps,params:=ps,assign,body,defers:=w.heap.size }
 have hlen:(w.alloc (.deferred (some []))).heap.size=w.heap.size+1:=by simp
 obtain⟨V,hV⟩:∃ V,(w.alloc (.deferred (some []))).alloc (.loop (rc .ready none))=V:=⟨_,rfl⟩;have hVr:V.heap[w.heap.size+1]? = some (.loop (rc .ready none)):=by
  rw[←hV]
  have:=World.alloc_heap_new (w.alloc (.deferred (some []))) (.loop (rc .ready none))
  rwa [hlen] at this
 have hVd:V.heap[w.heap.size]? = some (.deferred (some [])):=by
  rw[←hV];exact (Below.heap_alloc _ _ _ (by omega)).trans (World.alloc_heap_new w _)
 have hVI:I [] V:=by rw[←hV];exact hI.alloc _ (hI.alloc _ h0)
 have hVR:Rdy V:=by rw[←hV];exact hrdy _ _
 refine⟨w.heap.size+1,[{ target:=.collected w.heap.size,args:=#[] }],V,{ target:=.fn (.func gf) lb,args:=#[.func (.yield (w.heap.size+1)) #[] #[]] },V,gf,#[.func (.yield (w.heap.size+1)) #[] #[]]++lb,V,?_,?_,?_,?_,fun _=>h1,?_⟩
 · rw[←hV];exact run_enterLoop_outer _ _ _ _ _
 · simp only[resolve,hg];simp[go_sem]
 · intro f' hf';simp[Target.leads] at hf';subst hf';exact hFg
 · simp[invoke,go_sem,eg]
 · refine (hseq (w.heap.size+1)
    (fun pre W=>I pre W∧W.heap[w.heap.size+1]? = some (.loop (rc .ready none))∧W.heap[w.heap.size]? = some (.deferred (some [])))
    (fun pre W=>∃ c,Ix c pre W∧W.heap[w.heap.size+1]? = some (.loop (rc .done (some c)))∧W.heap[w.heap.size]? = some (.deferred (some [])))
    V hVR (fun s A B h hs=>⟨hIs s A B h.1 hs,hSt A B _ _ hs h.2.1 rfl rfl,hSt A B _ _ hs h.2.2 rfl rfl⟩)
    (fun s A B ⟨c,hc,hl,hk⟩ hs=>⟨c,hIxs c s A B hc hs,hSt A B _ _ hs hl rfl rfl,hSt A B _ _ hs hk rfl rfl⟩) ?_ ⟨hVI,hVr,hVd⟩).mono ?_
   · rintro pre x W0 ⟨hi0,hl0,hk0⟩ hg0 hN;have hy:=run_yield (P:=P) (args:=encs x) hl0 (hps x);obtain⟨W,hW⟩:∃ W,W₁ x W0=W:=⟨_,rfl⟩;have hs:=hW1 x W0;have hK0:=hKs x W0;have hg:=hGs x W0 hg0;have hA:=hAx0 x W0;have has:=fun K=>hassign (w.heap.size+1) x W0 K hg0;rw[hW] at hs hK0 hg hA has;have hi:=hIs _ _ _ hi0 hs;have hl:=hSt _ _ _ _ hs hl0 rfl rfl;have hk:=hSt _ _ _ _ hs hk0 rfl rfl;have hlt:w.heap.size+1<W.heap.size:=(Array.getElem?_eq_some_iff.1 hl).1;refine⟨fn,_,assign,body,hy,roundIn_of_wpIn hfn (has _ ⟨_,run_beginRound hl rfl,?_⟩)⟩;obtain⟨U,hU⟩:∃ U,W.putObj (w.heap.size+1) (.loop { rc .ready none with state:=.busy })=U:=⟨_,rfl⟩;have hUl:U.heap[w.heap.size+1]? = some (.loop { rc .ready none with state:=.busy }):=by rw[←hU];exact World.putObj_heap_same hlt
     have hUd:U.heap[w.heap.size]? = some (.deferred (some [])):=by rw[←hU];exact (World.putObj_heap_other (by omega)).trans hk
     have hUK:Kp W0 U:=by rw[←hU];exact hKt hK0 (hKb _ _ _ _ (by omega) hl rfl rfl)
     have hUI:I pre U:=by rw[←hU];exact hI.putObj _ hi (by omega) hl rfl
     rw[hU];have hUG:Gv x U:=by rw[←hU];exact hGv x W _ _ _ hg (by omega) hl rfl
     have hUA:Ax x (a₁ x W0) U:=by rw[←hU];exact hAxp x _ W _ _ _ hA (by omega) hl rfl
     refine wpIn_mono (hbody _ pre x _ U hUI hUG hUA hN) ?_;have fin:∀ (jump:Option Code) (X:World),KeepsOthers U X →
      (Instr.endRound (w.heap.size+1) jump).run P X=.ok (.bool jump.isNone) (X.putObj (w.heap.size+1) (.loop (rc (if jump.isNone then .ready else .done) jump))) ∧
      X.heap[w.heap.size+1]? = some (.loop { rc .ready none with state:=.busy }) ∧
      (X.putObj (w.heap.size+1) (.loop (rc (if jump.isNone then .ready else .done) jump))).heap[w.heap.size+1]? = some (.loop (rc (if jump.isNone then .ready else .done) jump)) ∧
      (X.putObj (w.heap.size+1) (.loop (rc (if jump.isNone then .ready else .done) jump))).heap[w.heap.size]? = some (.deferred (some [])):=fun jump X hX=>by
      have hXl:=hX.same _ _ hUl rfl;exact⟨run_endRound (P:=P) jump hXl,hXl,World.putObj_heap_same (Array.getElem?_eq_some_iff.1 hXl).1,(World.putObj_heap_other (by omega)).trans (hX.same _ _ hUd rfl)⟩
     rintro e a3 X hp;cases e with
     | normal =>
       obtain⟨p1,p2,p3⟩:=hp;obtain⟨r1,r2,r3,r4⟩:=fin none X p1;exact⟨_,_,r1,.inl ⟨rfl,⟨hI.putObj _ p3 (by omega) r2 rfl,r3,r4⟩,hKt (hKt hUK p2) (hKb _ _ _ _ (by omega) r2 rfl rfl)⟩⟩
     | ret =>
       obtain⟨p1,p3⟩:=hp;obtain⟨r1,r2,r3,r4⟩:=fin (some .ret) X p1;exact⟨_,_,r1,.inr ⟨rfl,.ret,(hIx _).putObj _ p3 (by omega) r2 rfl,r3,r4⟩⟩
     | exit id =>
       obtain⟨p1,p3⟩:=hp;obtain⟨r1,r2,r3,r4⟩:=fin (some (.exit id)) X p1;exact⟨_,_,r1,.inr ⟨rfl,.exit id,(hIx _).putObj _ p3 (by omega) r2 rfl,r3,r4⟩⟩
     | goto t =>
       obtain⟨p1,p3⟩:=hp;obtain⟨r1,r2,r3,r4⟩:=fin (some (.goto t)) X p1;exact⟨_,_,r1,.inr ⟨rfl,.goto t,(hIx _).putObj _ p3 (by omega) r2 rfl,r3,r4⟩⟩
     | panic ch=>exact hp.elim
     | outgrown=>exact hp.elim
   · rintro e X ⟨⟨v,rfl⟩,(⟨xs,hS,hi,hl,hk⟩|⟨pre,hSp,c,hi,hl,hk⟩)⟩
     · exact⟨none,_,run_endLoop (P:=P) hl (by simp[rc]),hdone _ xs _ (Nat.le_refl _) hS (hI.putObj _ hi (by omega) hl rfl) ((World.putObj_heap_other (by omega)).trans hk)⟩
     · exact⟨some c,_,run_endLoop (P:=P) hl (by simp[rc]),hstop _ c pre _ (Nat.le_refl _) hSp ((hIx c).putObj _ hi (by omega) hl rfl) ((World.putObj_heap_other (by omega)).trans hk)⟩
end Go.Proofs.YtoigglljnklhlaaGreatDoor
