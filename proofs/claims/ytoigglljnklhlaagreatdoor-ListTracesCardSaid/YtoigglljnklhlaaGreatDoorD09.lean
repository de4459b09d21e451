/- Joined. -/
import Derived.Test.YtoigglljnklhlaaGreatDoorD08
import Derived.RangeFuncNested
set_option maxHeartbeats 8000000
set_option maxRecDepth 100000
namespace Go.Proofs.YtoigglljnklhlaaGreatDoor
section
open Go.RowKit
def vS {α:Type} (F:Fence) (n:Nat) (P:Program) (g:Nat) (lb:Array Value) (encs:α→Array Value) (Kp St:World→World→Prop) (Rdy:World→Prop) (Gv:α→World→Prop) (S Sp:List α→Prop) (N:Nat):Prop :=
 ∀ (l:Nat) (J Jx:List α→World→Prop) (W:World),Rdy W→(∀ s A B,J s A→St A B→J s B)→(∀ s A B,Jx s A→St A B→Jx s B) →
  (∀ pre x A,J pre A→Gv x A→pre.length<N→YieldAt F (n - 1) P l (encs x) A fun e B =>
   (e=.returned (.bool true)∧J (pre++[x]) B∧Kp A B)∨(e=.returned (.bool false)∧Jx (pre++[x]) B)) →
  J [] W →
  CallsIn F n P g (#[.func (.yield l) #[] #[]]++lb) W fun e B=>(∃ v,e=.returned v)∧((∃ xs,S xs∧J xs B)∨(∃ pre,Sp pre∧Jx pre B))
variable {F:Fence} {n:Nat} {P:Program}
theorem gJ {α:Type} {g:Operand} {ps:Array Tmp} {assign body:Code} {Q:Exit→Act→World→Prop} {a:Act} {w:World}
 (hro:F.round=none) (h1:1≤n) {gf:Nat} {lb:Array Value} (hg:a.eval g=.func (.func gf) #[] lb) (hFg:F.fn gf) (eg:∀ args w,(callFunc gf args).run P w=.ok (.enter gf args) w)
 {encs:α→Array Value} {Kp St:World→World→Prop} {Rdy:World→Prop} {Gv:α→World→Prop} {S Sp:List α→Prop} {N:Nat} (hseq:vS F (n - 1) P gf lb encs Kp St Rdy Gv S Sp N)
 (hrdy:∀ o o',Rdy ((w.alloc o).alloc o')) (hSt:∀ (A B:World) (k:Nat) (o:Obj),St A B→A.heap[k]? = some o→o.isCells=false→o.isWalk=false→B.heap[k]? = some o)
 (hKt:∀ {A B C:World},Kp A B→Kp B C→Kp A C) (hKb:∀ (W:World) (l:Nat) (o o':Obj),w.heap.size≤l→W.heap[l]? = some o→o.isCells=false→o.isWalk=false→Kp W (W.putObj l o')) (hGv:∀ (x:α) (W:World) (l:Nat) (o o':Obj),Gv x W→w.heap.size≤l→W.heap[l]? = some o→o.isCells=false→Gv x (W.putObj l o')) (hps:∀ x,(encs x).size=ps.size)
 (I:List α→World→Prop) (Ix:Code→List α→World→Prop) (hI:OwnFrom w I) (hIs:∀ s A B,I s A→St A B→I s B) (hIx:∀ c,OwnFrom w (Ix c)) (hIxs:∀ c s A B,Ix c s A→St A B→Ix c s B) (h0:I [] w) (a₁:α→Act)
 (hassign:∀ (l:Nat) (x:α) (W:World) (K:Act→World→Prop),K (a₁ x) W →
  assign.wpIn (F.inRound l) (n - 1 - 1) P (Exit.then K (fun _ _ _=>False)) { tmps:=(ps.zip (encs x)).foldl (fun t (p,v)=>t.setIfInBounds p v) a.tmps,defers:=[] } W)
 (hbody:∀ (l:Nat) (pre:List α) (x:α) (W:World),I pre W→Gv x W→pre.length<N→body.wpIn (F.inRound l) (n - 1 - 1) P (ownPostK Kp I Ix (pre++[x]) W) (a₁ x) W)
 (hdone:∀ (D:Nat) (xs:List α) (W:World),w.heap.size≤D→S xs→I xs W→W.heap[D]? = some (.deferred (some []))→Q .normal { a with defers:={ target:=.collected D,args:=#[] }::a.defers } W)
 (hstop:∀ (D:Nat) (c:Code) (pre:List α) (W:World),w.heap.size≤D→Sp pre→Ix c pre W→W.heap[D]? = some (.deferred (some []))→c.wpIn F n P Q { a with defers:={ target:=.collected D,args:=#[] }::a.defers } W) :
 (Code.rangeFunc g ps assign body).wpIn F n P Q a w:=by
 refine wpIn_rangeFunc fun fn hfn=>?_;rw[hro]
 let rc:LoopState→Option Code→Loop:=fun st pe=>{ state:=st,pending:=pe,fn,tmps:=a.tmps,params:=ps,assign,body,defers:=w.heap.size }
 have hlen:(w.alloc (.deferred (some []))).heap.size=w.heap.size+1:=by simp
 obtain⟨V,hV⟩:∃ V,(w.alloc (.deferred (some []))).alloc (.loop (rc .ready none))=V:=⟨_,rfl⟩;have hVr:V.heap[w.heap.size+1]? = some (.loop (rc .ready none)):=by
  rw[←hV]
  have:=World.alloc_heap_new (w.alloc (.deferred (some []))) (.loop (rc .ready none))
  rwa [hlen] at this
 have hVd:V.heap[w.heap.size]? = some (.deferred (some [])):=by
  rw[←hV];exact (Below.heap_alloc _ _ _ (by omega)).trans (World.alloc_heap_new w _)
 have hVI:I [] V:=by rw[←hV];exact hI.alloc _ (hI.alloc _ h0)
 have hVR:Rdy V:=by rw[←hV];exact hrdy _ _
 refine⟨w+1,[{ target:=.collected w.heap.size,args:=#[] }],V,{ target:=.fn (.func gf) lb,args:=#[.func (.yield (w.heap.size+1)) #[] #[]] },V,gf,#[.func (.yield (w.heap.size+1)) #[] #[]]++lb,V,?_,?_,?_,?_,fun _=>h1,?_⟩
 · rw[←hV];exact run_enterLoop_outer _ _ _ _ _
 · simp only[resolve,hg];simp[go_sem]
 · intro f' hf';simp[Target.leads] at hf';subst hf';exact hFg
 · simp[invoke,go_sem,eg]
 · refine (hseq (w.heap.size+1)
    (fun pre W=>I pre W∧W.heap[w.heap.size+1]? = some (.loop (rc .ready none))∧W.heap[w.heap.size]? = some (.deferred (some [])))
    (fun pre W=>∃ c,Ix c pre W∧W.heap[w.heap.size+1]? = some (.loop (rc .done (some c)))∧W.heap[w.heap.size]? = some (.deferred (some [])))
    V hVR (fun s A B h hs=>⟨hIs s A B h.1 hs,hSt A B _ _ hs h.2.1 rfl rfl,hSt A B _ _ hs h.2.2 rfl rfl⟩)
    (fun s A B ⟨c,hc,hl,hk⟩ hs=>⟨c,hIxs c s A B hc hs,hSt A B _ _ hs hl rfl rfl,hSt A B _ _ hs hk rfl rfl⟩) ?_ ⟨hVI,hVr,hVd⟩).mono ?_
   · rintro pre x W ⟨hi,hl,hk⟩ hg hN;have hlt:w.heap.size+1<W.heap.size:=(Array.getElem?_eq_some_iff.1 hl).1;have hy:=run_yield (P:=P) (args:=encs x) hl (hps x);refine⟨fn,_,assign,body,hy,roundIn_of_wpIn hfn (hassign _ x W _ ⟨_,run_beginRound hl rfl,?_⟩)⟩;obtain⟨U,hU⟩:∃ U,W.putObj (w.heap.size+1) (.loop { rc .ready none with state:=.busy })=U:=⟨_,rfl⟩;have hUl:U.heap[w.heap.size+1]? = some (.loop { rc .ready none with state:=.busy }):=by rw[←hU];exact World.putObj_heap_same hlt
     have hUd:U.heap[w.heap.size]? = some (.deferred (some [])):=by rw[←hU];exact (World.putObj_heap_other (by omega)).trans hk
     have hUK:Kp W U:=by rw[←hU];exact hKb _ _ _ _ (by omega) hl rfl rfl
     have hUI:I pre U:=by rw[←hU];exact hI.putObj _ hi (by omega) hl rfl
     rw[hU];have hUG:Gv x U:=by rw[←hU];exact hGv x W _ _ _ hg (by omega) hl rfl
     refine wpIn_mono (hbody _ pre x U hUI hUG hN) ?_;have fin:∀ (jump:Option Code) (X:World),KeepsOthers U X →
      (Instr.endRound (w.heap.size+1) jump).run P X=.ok (.bool jump.isNone) (X.putObj (w.heap.size+1) (.loop (rc (if jump.isNone then .ready else .done) jump))) ∧
      X.heap[w.heap.size+1]? = some (.loop { rc .ready none with state:=.busy }) ∧
      (X.putObj (w.heap.size+1) (.loop (rc (if jump.isNone then .ready else .done) jump))).heap[w.heap.size+1]? = some (.loop (rc (if jump.isNone then .ready else .done) jump)) ∧
      (X.putObj (w.heap.size+1) (.loop (rc (if jump.isNone then .ready else .done) jump))).heap[w.heap.size]? = some (.deferred (some [])):=fun jump X hX=>by
      have hXl:=hX.same _ _ hUl rfl;exact⟨run_endRound (P:=P) jump hXl,hXl,World.putObj_heap_same (Array.getElem?_eq_some_iff.1 hXl).1,(World.putObj_heap_other (by omega)).trans (hX.same _ _ hUd rfl)⟩
     rintro e a3 X hp;cases e with
     | normal =>
       obtain⟨p1,p2,p3⟩:=hp;obtain⟨r1,r2,r3,r4⟩:=fin none X p1;exact⟨_,_,r1,.inl ⟨rfl,⟨hI.putObj _ p3 (by omega) r2 rfl,r3,r4⟩,hKt (hKt hUK p2) (hKb _ _ _ _ (by omega) r2 rfl rfl)⟩⟩
     | ret =>
       obtain⟨p1,p3⟩:=hp;obtain⟨r1,r2,r3,r4⟩:=fin (some .ret) X p1;exact⟨_,_,r1,.inr ⟨rfl,.ret,(hIx _).putObj _ p3 (by omega) r2 rfl,r3,r4⟩⟩
     | exit id =>
       obtain⟨p1,p3⟩:=hp;obtain⟨r1,r2,r3,r4⟩:=fin (some (.exit id)) X p1;exact⟨_,_,r1,.inr ⟨rfl,.exit id,(hIx _).putObj _ p3 (by omega) r2 rfl,r3,r4⟩⟩
     | goto t =>
       obtain⟨p1,p3⟩:=hp;obtain⟨r1,r2,r3,r4⟩:=fin (some (.goto t)) X p1;exact⟨_,_,r1,.inr ⟨rfl,.goto t,(hIx _).putObj _ p3 (by omega) r2 rfl,r3,r4⟩⟩
     | panic ch=>exact hp.elim
     | outgrown=>exact hp.elim
   · rintro e X ⟨⟨v,rfl⟩,(⟨xs,hS,hi,hl,hk⟩|⟨pre,hSp,c,hi,hl,hk⟩)⟩
     · exact⟨none,_,run_endLoop (P:=P) hl (by simp[rc]),hdone _ xs _ (Nat.le_refl _) hS (hI.putObj _ hi (by omega) hl rfl) ((World.putObj_heap_other (by omega)).trans hk)⟩
     · exact⟨some c,_,run_endLoop (P:=P) hl (by simp[rc]),hstop _ c pre _ (Nat.le_refl _) hSp ((hIx c).putObj _ hi (by omega) hl rfl) ((World.putObj_heap_other (by omega)).trans hk)⟩
end
section
open Go.RowKit Go.Sort
open Go.Proofs.Tryz
theorem Dl {l:List UInt8} {c:UInt8} (h:Lib.indexByte l c<0):Lib.cut l [c]=(l,[],false):=by
 unfold Lib.cut;rw[Lib.index_one,if_neg om]
theorem zV {l:List UInt8} {c:UInt8} (h:0≤Lib.indexByte l c):Lib.cut l [c]=(l.take (Lib.indexByte l c).toNat,l.drop ((Lib.indexByte l c).toNat+1),true):=by
 unfold Lib.cut;rw[Lib.index_one,if_pos om];rfl
theorem Pe (s:ByteArray) (o:Nat):s.extract 0 o=⟨(s.data.toList.take o).toArray⟩:=by
 apply ByteArray.ext
 rw[ByteArray.data_extract];apply Array.toList_inj.1
 rw[Array.toList_extract];simp[List.extract]
theorem Pf (s:ByteArray) (o:Nat):s.extract o s.size=⟨(s.data.toList.drop o).toArray⟩:=by
 apply ByteArray.ext
 rw[ByteArray.data_extract];apply Array.toList_inj.1
 rw[Array.toList_extract];simp only[List.extract];rw[Xj (by rw[Xm,Xv];exact Qk _)]
theorem Jc (s:ByteArray) (c:UInt8) (w:World) (hs:s.size≤100000000) :
 Calls prog 299 #[.string s,.string ⟨#[c]⟩] w fun e w'=>e=.returned (.tuple #[.string ⟨(Lib.cut s.data.toList [c]).1.toArray⟩,.string ⟨(Lib.cut s.data.toList [c]).2.1.toArray⟩,.bool (Lib.cut s.data.toList [c]).2.2])∧∃ n,w'=w.drewN n:=by
 obtain⟨i,hi⟩:∃ i,Lib.indexByte s.data.toList c=i:=⟨_,rfl⟩;have hge:=Lib.indexByte_ge s.data.toList c;have hidx:=Tryz.stringslite_Index_one s c w;rw[hi] at hidx hge;have HIDX:=Hh hidx;clear hidx;by_cases h0:0≤i
 · have hlt:i<s.size:=by
    obtain⟨o,rfl⟩:=Xf h0
    have:=(Lib.indexByte_some hi).1
    have h2:=(Qd.1 this).1;have h3:s.data.toList.length=s.size:=by show s.data.toList.length=s.data.size;rw[Xv]
    omega
   have hcut:=zV (l:=s.data.toList) (c:=c) (by rw[hi];exact h0);rw[hi] at hcut;rw[hcut];obtain⟨o,rfl⟩:=Xf h0;have HI:=Hh hi;clear hi hcut;have w1:IntKind.i64.wrap ((o:Int)+1)=(o:Int)+1:=IntWalk.i64_in _ om;go_enter func299,ntmps299
   go_wp2_with fail
   refine HIDX.out.mono ?_;rintro e w1 ⟨rfl,rfl⟩;go_wp2_with fail
   go_quiet (fail)
   go_wp2_with fail
   go_ret3;refine⟨?_,_,rfl⟩;show Ending.returned (.tuple #[.string (s.extract 0 o),.string (s.extract (o+1) s.size),.bool true])=_
   rw[Pe,Pf];rfl
 · have hcut:=Dl (l:=s.data.toList) (c:=c) (by rw[hi];omega);rw[hcut];clear hcut hi;go_enter func299,ntmps299
   go_wp2_with fail
   refine HIDX.out.mono ?_;rintro e w1 ⟨rfl,rfl⟩;go_wp2_with fail
   go_ret3;exact⟨rfl,0,rfl⟩
theorem zW (s:ByteArray) (c:UInt8) (w:World) (hs:s.size≤100000000) :
 Calls prog 289 #[.string s,.string ⟨#[c]⟩] w fun e w'=>e=.returned (.tuple #[.string ⟨(Lib.cut s.data.toList [c]).1.toArray⟩,.string ⟨(Lib.cut s.data.toList [c]).2.1.toArray⟩,.bool (Lib.cut s.data.toList [c]).2.2])∧∃ n,w'=w.drewN n:=by
 generalize hR:Lib.cut s.data.toList [c]=R;have h:=Jc s c w hs;rw[hR] at h;clear hR;have H:=Hh h;clear h;go_enter func289,ntmps289
 go_wp2_with fail
 refine H.out.mono ?_;rintro e w1 ⟨rfl,n,rfl⟩;go_wp2_with fail
 go_ret3;exact⟨rfl,n,rfl⟩
end
section
open Go.RowKit Go.Sort Go.Shelf
open Go.Proofs.Tryz
attribute [local go_sem] Oper.semAt_some
abbrev RA:={ r:Rule // r∈iU }
def dA (l:List RA):ByteArray:=⟨(mQ (l.map (·.1.text))).toArray⟩
def StrB (b:Nat) (W:World) (s:ByteArray):Prop:=W.heap[b]? = some (.cells #[.string s] 9 (0,0))
theorem StrB.cell {b:Nat} {W:World} {s:ByteArray} (h:StrB b W s):W.cell? b=some (.string s):=by unfold StrB at h;simp[World.cell?,h]
theorem StrB.frozen {b:Nat} {W:World} {s:ByteArray} (h:StrB b W s):W.frozen? ⟨b,0,none⟩=false:=by unfold StrB at h;simp[World.frozen?,h]
theorem StrB.lt {b:Nat} {W:World} {s:ByteArray} (h:StrB b W s):b<W.heap.size:=(Ql.1 h).1
theorem StrB.set {b:Nat} {W:World} {s t:ByteArray} (h:StrB b W s):StrB b (W.setCell b (.string t)) t:=by
 unfold StrB at *;show (W.heap.modify b _)[b]? = _
 rw[Yk (by rw[Array.size_modify];exact (Ql.1 h).1),Array.getElem_modify_self,(Ql.1 h).2]
 rfl
theorem StrB.below {b n:Nat} {A B:World} {s:ByteArray} (h:StrB b A s) (hb:Below n A B) (hn:b<n):StrB b B s:=(hb.block b hn).trans h
theorem Kb.drewN {b:Nat} {u w:World} (h:Kb b u w) (n:Nat):Kb b u (w.drewN n):=⟨h.os,h.tape,h.output,h.size,h.block⟩
def StB (b:Nat) (A B:World):Prop:=Kb b A B∧∃ s,StrB b A s
def Al (b:Nat) (A B:World):Prop:=B.heap[b]? = A.heap[b]?
theorem Ev {b:Nat} {A B C:World} (h:Al b A B) (k:Al b B C):Al b A C:=Eq.trans k h
theorem Ew {b:Nat} {w:World} (hb:b<w) (W:World) (l:Nat) (o o':Obj) (hl:w.heap.size≤l) (_:W.heap[l]? = some o) (_:o.isCells=false) (_:o.isWalk=false):Al b W (W.putObj l o'):=World.putObj_heap_other om
theorem mC (r:RA):iY r.1=true:=xZ r.1 r.2
theorem cZ (r:RA):9≤r.1.text.length∧r.1.text.length≤100∧(∀ b∈r.1.text,b≠59):=by
 have h:=mC r;unfold iY at h;simp only[Qe,Qf,Xk] at h;obtain⟨⟨⟨⟨⟨⟨h1,h2⟩,_⟩,h3⟩,_⟩,h4⟩,_⟩:=h;exact⟨h2,h4,h3⟩
theorem Ho (r:RA) (l:List RA):Lib.cut (dA (r::l)).data.toList [59]=(r.1.text,(dA l).data.toList,!l.isEmpty):=by
 have:=Jb (t:=r.1.text) (ts:=l.map (·.1.text)) (cZ r).2.2
 unfold dA;simp only[Xt];rw[this];cases l<;>simp
theorem sQ:∀ l:List RA,(dA l).size≤l.length*101
 | []=>by show ([]:List UInt8).toArray.size≤_;simp
 | [r]=>by
   have:=(cZ r).2.1
   show (r.1.text.toArray.size)≤_
   simp;omega
 | r::s::l=>by
   have h1:=(cZ r).2.1;have h2:=sQ (s::l);have e:(dA (r::s::l)).size=r.1.text.length+1+(dA (s::l)).size:=by
    show ((r.1.text++59::mQ ((s::l).map (·.1.text))).toArray.size)=_
    rw[Qx,Qc,Qp];show _=_+(mQ ((s::l).map (·.1.text))).toArray.size
    rw[Qx];omega
   rw[e];simp only[Qp] at h2 ⊢;omega
theorem uH (n b:Nat) (hn:1≤n) (r0:RA) (rl:List RA) (hlen:rl.length≤1000) :
 vS Fence.wide n prog 292 #[.pointer b] (fun x:RA=>#[.string ⟨x.1.text.toArray⟩]) (Al b) (StB b) (fun W=>StrB b W (dA (r0::rl))) (fun _ _=>True) (fun xs=>xs=r0::rl) (fun pre=>pre <+: r0::rl) (rl.length+1):=by
 intro l J Jx W hR hJ hJx hY h0;refine callsIn_of_wp func292 rfl trivial ?_ rfl;simp only[ntmps292,Qx,Qp,Qz,Nat.reduceAdd,Nat.reduceSub,Array.replicate_succ,Array.replicate_zero,List.push_toArray,List.append_toArray,Ye,Xy];gi_wp2
 gi_loopg [3] (rl.length+2) (fun k more wr=>∃ (pre rest:List RA),r0::rl=pre++rest∧more=.bool (!rest.isEmpty)∧Hid (rest≠[]→StrB b wr (dA rest))∧Hid (J pre wr)∧rest.length<k)
 case atStart=>exact⟨[],r0::rl,rfl,rfl,Hh (fun _=>hR),Hh h0,by simp⟩
 case round =>
  obtain⟨pre,rest,hx,rfl,HSt,hj,hk⟩:=hrel;cases rest with
  | nil =>
    have hpre:pre=r0::rl:=by rw[hx,Zd]
    have HP:=Hh hpre;clear hpre hx;gi_wp2
    go_end0
    exact⟨⟨_,rfl⟩,.inl ⟨pre,HP.out,hj.out⟩⟩
  | cons r rest =>
    have hst:=HSt.out sm;have hcl:=hst.cell;have hfl:=hst.frozen;have hlt:=hst.lt;have hcut:=zW (dA (r::rest)) 59 wr (by have:=sQ (r::rest);have h2:=congrArg List.length hx;simp only[Qc,Qp] at h2 this;omega)
    rw[Ho] at hcut;have hstb:∀ q,StB b wr ((wr.drewN q).setCell b (.string (dA rest))):=fun q=>⟨Kb.setCell (Kb.drewN (Kb.refl b wr) q) 0 _,⟨_,hst⟩⟩;have hset:∀ q,StrB b ((wr.drewN q).setCell b (.string (dA rest))) (dA rest):=fun q=>StrB.set (W:=wr.drewN q) hst;have hplen:pre.length<rl.length+1:=by have h2:=congrArg List.length hx;simp only[Qc,Qp] at h2;omega
    have hY2:=fun q=>hY pre r _ (hJ _ _ _ hj.out (hstb q)) trivial hplen;have HY2:=Hh hY2;clear hY2;have HCUT:=Hh hcut;clear hcut;have HSET:=Hh hset;clear hset hst hstb;have HX:=Hh hx;clear hx;gi_wp2_with (refine⟨trivial,?_⟩;gi_at_call 289;refine (callsIn_wide.2 HCUT.out).mono ?_;rintro e w' ⟨rfl,q,rfl⟩;obtain⟨fn,tmps,assign,body,hy,hR⟩:=HY2.out q)
    refine hR.mono ?_;rintro e W3 (⟨rfl,hJ3,hk3⟩|⟨rfl,hJx3⟩)
    · have h3:StrB b W3 (dA rest):=Eq.trans hk3 (HSET.out _);have H3:=Hh h3;clear h3;gi_wp2
      gi_roundg (rest.length+1)
      case measure=>simp only[Qp] at hk;omega
      case rel=>exact⟨pre++[r],rest,by rw[HX.out,Yc];rfl,rfl,Hh (fun _=>H3.out),Hh hJ3,om⟩
    · gi_wp2
      refine bodyPost_ret (results_none rfl _ _ _) rfl ?_;exact⟨⟨_,rfl⟩,.inr ⟨pre++[r],⟨rest,by rw[HX.out,Yc];rfl⟩,hJx3⟩⟩
end
section
open Go.RowKit Go.Sort
open Go.Proofs.Tryz
def Un:List (List UInt8):=[[40,66,67,41],[40,67,41],[40,68,69,41],[40,72,76,41],[40,83,80,41],[40,110,41],[40,119,41],[48],[49],[50],[65],[65,70],[65,70,39],[68,69],[72,76],[73],[82],[83,80],[98],[99],[101],[107],[110],[112],[113],[114],[115],[116],[119]]
def Dz (bits:List UInt8) (op:Nat) (s:List UInt8):Bool :=
 match s with
 | [c]=>if c=114∨c=115 then decide (aM op c 0 bits 0<8) else if c=112∨c=113 then decide (aM op c 0 bits 0<4) else true
 | _=>true
theorem aPk:∀ r∈iU,∀ s∈r.args,s∈Un:=by decide +kernel
theorem Uo:∀ r∈iU,∀ s∈r.args,∀ op:Fin 256,Dz r.bits op.val s=true:=by decide +kernel
def Wn:List (List UInt8):=[[40,66,67,41],[40,67,41],[40,68,69,41],[40,72,76,41],[40,83,80,41],[65],[65,70],[65,70,39],[68,69],[72,76],[73],[82],[83,80]]
theorem dD:∀ s∈Wn,gT s=eJ s:=by decide +kernel
theorem aAq (r:RA):r.1.bits.length=8:=by
 have h:=mC r;unfold iY at h;simp only[Qe,Qf] at h;exact h.1.1.2
theorem Vj (r:RA):r.1.args.length≤3:=by
 have h:=mC r;unfold iY at h;simp only[Qe,Qf] at h;exact h.2
theorem Um (b:Nat) (u:Bu) (s:List UInt8) (w:World) (hT:TabsA w) (hB:BuAt w b u) (h8:u.bits.length=8) (hop:u.op<256) (hx:u.ex.length≤100) (hs:s∈Un) (hC:Dz u.bits u.op s=true) :
 Calls prog 251 #[.pointer b,s] w (mA b u (dS u.bits u.op s) w):=by
 unfold Un at hs;simp only[Xg,Xp,or_false] at hs;rcases hs with rfl|rfl|rfl|rfl|rfl|rfl|rfl|rfl|rfl|rfl|rfl|rfl|rfl|rfl|rfl|rfl|rfl|rfl|rfl|rfl|rfl|rfl|rfl|rfl|rfl|rfl|rfl|rfl|rfl
 · rw[show dS u.bits u.op [40,66,67,41]=(gT [40,66,67,41],[]) from rfl,dD [40,66,67,41] dc]
   exact (eP b [40,66,67,41] w (by decide +kernel) dc dc dc).mono fun e w' h=>bC hB h
 · rw[show dS u.bits u.op [40,67,41]=(gT [40,67,41],[]) from rfl,dD [40,67,41] dc]
   exact (eP b [40,67,41] w (by decide +kernel) dc dc dc).mono fun e w' h=>bC hB h
 · rw[show dS u.bits u.op [40,68,69,41]=(gT [40,68,69,41],[]) from rfl,dD [40,68,69,41] dc]
   exact (eP b [40,68,69,41] w (by decide +kernel) dc dc dc).mono fun e w' h=>bC hB h
 · rw[show dS u.bits u.op [40,72,76,41]=(gT [40,72,76,41],[]) from rfl,dD [40,72,76,41] dc]
   exact (eP b [40,72,76,41] w (by decide +kernel) dc dc dc).mono fun e w' h=>bC hB h
 · rw[show dS u.bits u.op [40,83,80,41]=(gT [40,83,80,41],[]) from rfl,dD [40,83,80,41] dc]
   exact (eP b [40,83,80,41] w (by decide +kernel) dc dc dc).mono fun e w' h=>bC hB h
 · rw[show dS u.bits u.op [40,110,41]=((7,0,0),[110]) from rfl]
   exact aAe b u w hB hx
 · rw[show dS u.bits u.op [40,119,41]=((7,0,0),[119]) from rfl]
   exact aAd b u w hB hx
 · rw[show dS u.bits u.op [48]=(((6:Int),(0:Int),(0:Int)),[]) from rfl]
   exact (aBl b w).mono fun e w' h=>bC hB h
 · rw[show dS u.bits u.op [49]=(((6:Int),(0:Int),(1:Int)),[]) from rfl]
   exact (aBk b w).mono fun e w' h=>bC hB h
 · rw[show dS u.bits u.op [50]=(((6:Int),(0:Int),(2:Int)),[]) from rfl]
   exact (aBj b w).mono fun e w' h=>bC hB h
 · rw[show dS u.bits u.op [65]=(gT [65],[]) from rfl,dD [65] dc]
   exact (aBi b w).mono fun e w' h=>bC hB h
 · rw[show dS u.bits u.op [65,70]=(gT [65,70],[]) from rfl,dD [65,70] dc]
   exact (eP b [65,70] w (by decide +kernel) dc dc dc).mono fun e w' h=>bC hB h
 · rw[show dS u.bits u.op [65,70,39]=(gT [65,70,39],[]) from rfl,dD [65,70,39] dc]
   exact (eP b [65,70,39] w (by decide +kernel) dc dc dc).mono fun e w' h=>bC hB h
 · rw[show dS u.bits u.op [68,69]=(gT [68,69],[]) from rfl,dD [68,69] dc]
   exact (eP b [68,69] w (by decide +kernel) dc dc dc).mono fun e w' h=>bC hB h
 · rw[show dS u.bits u.op [72,76]=(gT [72,76],[]) from rfl,dD [72,76] dc]
   exact (eP b [72,76] w (by decide +kernel) dc dc dc).mono fun e w' h=>bC hB h
 · rw[show dS u.bits u.op [73]=(gT [73],[]) from rfl,dD [73] dc]
   exact (aBh b w).mono fun e w' h=>bC hB h
 · rw[show dS u.bits u.op [82]=(gT [82],[]) from rfl,dD [82] dc]
   exact (aBg b w).mono fun e w' h=>bC hB h
 · rw[show dS u.bits u.op [83,80]=(gT [83,80],[]) from rfl,dD [83,80] dc]
   exact (eP b [83,80] w (by decide +kernel) dc dc dc).mono fun e w' h=>bC hB h
 · rw[show dS u.bits u.op [98]=((6,0,((aM u.op 98 0 u.bits 0:Nat):Int)),[]) from rfl]
   exact (aBf b u w hB h8 hop).mono fun e w' h=>bC hB h
 · rw[show dS u.bits u.op [99]=((8,((aM u.op 99 0 u.bits 0:Nat):Int),0),[]) from rfl]
   exact (aBe b u w hB h8 hop).mono fun e w' h=>bC hB h
 · rw[show dS u.bits u.op [101]=((10,0,0),[101]) from rfl]
   exact aBd b u w hB hx
 · rw[show dS u.bits u.op [107]=((8,((aM u.op 107 0 u.bits 0:Nat):Int),0),[]) from rfl]
   exact (aBc b u w hB h8 hop).mono fun e w' h=>bC hB h
 · rw[show dS u.bits u.op [110]=((6,0,0),[110]) from rfl]
   exact aBb b u w hB hx
 · rw[show dS u.bits u.op [112]=((3,((aM u.op 112 0 u.bits 0:Nat):Int),0),[]) from rfl]
   exact (aBa b u w hT hB h8 hop (by simpa[Dz] using hC)).mono fun e w' h=>bC hB h
 · rw[show dS u.bits u.op [113]=((3,(if aM u.op 113 0 u.bits 0=3 then 4 else ((aM u.op 113 0 u.bits 0:Nat):Int)),0),[]) from rfl]
   exact (aAZ b u w hT hB h8 hop (by simpa[Dz] using hC)).mono fun e w' h=>bC hB h
 · rw[show dS u.bits u.op [114]=(cV (aM u.op 114 0 u.bits 0),[]) from rfl]
   exact (aAY b u w hT hB h8 hop (by simpa[Dz] using hC)).mono fun e w' h=>bC hB h
 · rw[show dS u.bits u.op [115]=(cV (aM u.op 115 0 u.bits 0),[]) from rfl]
   exact (aAX b u w hT hB h8 hop (by simpa[Dz] using hC)).mono fun e w' h=>bC hB h
 · rw[show dS u.bits u.op [116]=((6,0,8*((aM u.op 116 0 u.bits 0:Nat):Int)),[]) from rfl]
   exact (aAW b u w hB h8 hop).mono fun e w' h=>bC hB h
 · rw[show dS u.bits u.op [119]=((6,0,0),[119]) from rfl]
   exact aAV b u w hB hx
end
end Go.Proofs.YtoigglljnklhlaaGreatDoor
