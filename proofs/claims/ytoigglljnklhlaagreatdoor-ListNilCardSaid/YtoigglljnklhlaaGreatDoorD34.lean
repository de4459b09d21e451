/- Joined. -/
import Derived.Test.YtoigglljnklhlaaGreatDoorD24
set_option maxHeartbeats 8000000
set_option maxRecDepth 100000
namespace Go.Proofs.YtoigglljnklhlaaGreatDoor
open Go.RowKit Go.Sort
theorem uC {P:Program} {md:Region.Mode} {ops:Array Oper} {Q:Exit→Act→World→Prop} (I:Nat→Array Bool→Act→World→Prop)
 (hd:∀ n L a w,I n L a w→Region.ready md ops L=[]→Q .normal a w) (h0:∀ L a w,I 0 L a w→Region.ready md ops L=[])
 (hs:∀ n L a w i,I (n+1) L a w→i∈Region.ready md ops L→wpOp P ops Q i (fun a' w'=>I n (L.setIfInBounds i true) a' w') a w) :
 ∀ n L a w,I n L a w→wpAny P md ops Q n L a w
 | 0,L,a,w,h=>⟨h0 L a w h,hd 0 L a w h (h0 L a w h)⟩
 | n+1,L,a,w,h=>⟨fun hr=>hd _ L a w h hr,fun i hi=>wpOp_mono (fun a' w' h'=>uC I hd h0 hs n _ a' w' h') (hs n L a w i h hi)⟩
theorem mL {P:Program} {id:Nat} {ops:Array Oper} {Q:Exit→Act→World→Prop} {a:Act} {w:World} (hm:P.follows .mixedOrders=true) (I:Nat→Array Bool→Act→World→Prop)
 (hd:∀ n L a w,I n L a w→Region.ready .any ops L=[]→Q .normal a w) (h0:∀ L a w,I 0 L a w→Region.ready .any ops L=[])
 (hs:∀ n L a w i,I (n+1) L a w→i∈Region.ready .any ops L→wpOp P ops Q i (fun a' w'=>I n (L.setIfInBounds i true) a' w') a w)
 (hi:I ops.size (Array.replicate ops.size false) a w.drew):(Code.region id ops true).wp P Q a w :=
 wp_region_any hm (uC I hd h0 hs _ _ _ _ hi)
end Go.Proofs.YtoigglljnklhlaaGreatDoor
namespace Go.Proofs.YtoigglljnklhlaaGreatDoor
open Go.RowKit Go.Sort
open Go.ChangeMaps
def KCells (w w':World):Prop:=w.heap.size≤w'.heap.size∧∀ (k:Nat) (C:Array Value) (T:TypeId) (f:Nat × Nat),w.heap[k]? = some (Obj.cells C T f)→w'.heap[k]? = some (Obj.cells C T f)
theorem KCells.of_below {w w':World} (h:Below w.heap.size w w'):KCells w w':=⟨h.size,fun k _C _T _f hk=>(h.block k (Array.getElem?_eq_some_iff.1 hk).1).trans hk⟩
theorem KCells.refl (w:World):KCells w w:=⟨Nat.le_refl _,fun _ _ _ _ h=>h⟩
theorem Ey {L:Array Bool} {i:Nat} (h:L.getD i true=false):L.getD i false=false∧i<L.size:=by
 rcases Nat.lt_or_ge i L.size with h' | h'
 · exact⟨by simpa[h'] using h,h'⟩
 · simp[Array.getElem?_eq_none h'] at h
theorem oI {L:Array Bool} {i j:Nat} (hi:i<L.size):(L.setIfInBounds i true).getD j false=true↔j=i∨L.getD j false=true:=by
 by_cases h:i=j
 · subst h;simp[hi]
 · rw[getD_set_ne false h];exact⟨.inr,fun e=>e.resolve_left (fun e=>h e.symm)⟩
theorem vN {L:Array Bool} {i m n:Nat} (hi:i<L.size) (hL:L.size=m) (hu:L.getD i true=false) (h:(List.range m).countP (fun j=>!L.getD j true)≤n+1):(List.range m).countP (fun j=>!(L.setIfInBounds i true).getD j true)≤n:=by
 have e:∀ (l:List Nat),l.Nodup→i∈l→l.countP (fun j=>!(L.setIfInBounds i true).getD j true)+1≤l.countP (fun j=>!L.getD j true):=by
  intro l;induction l with
  | nil=>intro _ h;cases h
  | cons x l ih =>
    intro hn hm;rw[List.nodup_cons] at hn;rcases List.mem_cons.1 hm with rfl|hm
    · rw[List.countP_cons,List.countP_cons];have h1:(L.setIfInBounds i true).getD i true=true:=by simp[hi]
      have h2:l.countP (fun j=>!(L.setIfInBounds i true).getD j true)=l.countP (fun j=>!L.getD j true):=by
       refine List.countP_congr fun j hj=>?_;have hne:i≠j:=fun e=>hn.1 (e ▸ hj);rw[getD_set_ne true hne]
      rw[h1,hu,h2];simp
    · have hne:i≠x:=fun e=>hn.1 (e ▸ hm);rw[List.countP_cons,List.countP_cons,getD_set_ne true hne]
      have:=ih hn.2 hm
      omega
 have:=e (List.range m) List.nodup_range (List.mem_range.2 (hL ▸ hi))
 omega
end Go.Proofs.YtoigglljnklhlaaGreatDoor
namespace Go.Proofs.YtoigglljnklhlaaGreatDoor
open Go.RowKit Go.Sort
structure aBp (ops:Array Oper) (r s:Nat) (d:Nat→Tmp) (dp:Nat→Value→World→Prop) (A:Act→Prop) (w0:World) (n:Nat) (L:Array Bool) (a:Act) (w:World):Prop where
 size:L.size=ops.size
 count:(List.range ops.size).countP (fun i=>!L.getD i true)≤n
 act:A a
 kb:Kb r w0 w
 below:L.getD s false=false→Below w0.heap.size w0 w
 vals:∀ i,i≠s→L.getD i false=true→dp i (a.tmps.getD (d i) undef) w
 stored:L.getD s false=true→dp s undef w
def DOp (P:Program) (ops:Array Oper) (Q:Exit→Act→World→Prop) (r s:Nat) (d:Nat→Tmp) (dp:Nat→Value→World→Prop) (A:Act→Prop) (w0:World) (i:Nat):Prop :=
 ∃ (o:Oper) (ds:List Nat),ops[i]? = some o∧o.guard=none∧(∀ j∈ds,j≠s∧∃ e∈o.after,Region.binds .any e=true∧e.on=j) ∧
  ∀ (R:Act→World→Prop) a w,A a→Kb r w0 w→(i=s→Below w0.heap.size w0 w)→(∀ j∈ds,dp j (a.tmps.getD (d j) undef) w)→(i≠s→∀ v w',Below w.heap.size w w'→dp i v w'→R (a.put (some (d i)) v) w')→(i=s→∀ w',Kb r w w'→dp s undef w'→R a w')→Oper.wp P o a w R Q
theorem bN {P:Program} {id:Nat} {ops:Array Oper} {Q:Exit→Act→World→Prop} {a0:Act} {w0:World} (hm:P.follows .mixedOrders=true) (r s:Nat)
 (d:Nat→Tmp) (dp:Nat→Value→World→Prop) (A:Act→Prop)
 (stable:∀ i v w w',i≠s→dp i v w→Kb r w w'→dp i v w') (stable2:∀ v w w',dp s v w→Below w.heap.size w w'→dp s v w') (hA0:A a0)
 (hput:∀ i v a,i<ops.size→i≠s→A a→A (a.put (some (d i)) v)∧(a.put (some (d i)) v).tmps.getD (d i) undef=v)
 (inj:∀ i j,i<ops.size→j<ops.size→i≠s→j≠s→d i=d j→i=j)
 (hop:∀ i,i<ops.size→DOp P ops Q r s d dp A w0 i)
 (hsel:∀ (i:Nat) (o:Oper),ops[i]? = some o→∀ e∈o.after,Region.binds .any e=true→e.on<i)
 (hQ:∀ a w,A a→Kb r w0 w→(¬ s<ops.size→Below w0.heap.size w0 w)→(∀ i,i<ops.size→i≠s→dp i (a.tmps.getD (d i) undef) w)→(s<ops.size→dp s undef w)→Q .normal a w) :
 (Code.region id ops true).wp P Q a0 w0:=by
 have hall:∀ (n:Nat) (L:Array Bool) (a:Act) (w:World),aBp ops r s d dp A w0 n L a w→Region.ready .any ops L=[]→∀ i,i<ops.size→L.getD i false=true:=by
  intro n L a w h hr i;induction i using Nat.strongRecOn with
  | _ i ih =>
    intro hi;rcases hb:L.getD i false with _|_
    · exfalso
      have ho:ops[i]? = some ops[i]:=Array.getElem?_eq_getElem hi
      have:i∈Region.ready .any ops L:=by
       rw[mem_ready];refine⟨?_,_,ho,fun e he hb=>ih _ (hsel i _ ho e he hb) (Nat.lt_trans (hsel i _ ho e he hb) hi)⟩;rw[←hb];simp[h.size,hi]
      rw[hr] at this;cases this
    · rfl
 have hlt:∀ (L:Array Bool) (i:Nat),L.size=ops.size→L.getD i false=true→i<ops.size:=by
  intro L i hs h;rcases Nat.lt_or_ge i L.size with h' | h'
  · omega
  · simp[Array.getElem?_eq_none h'] at h
 refine mL hm (aBp ops r s d dp A w0) ?_ ?_ ?_ ?_
 · intro n L a w h hr;have hL:=hall n L a w h hr;refine hQ a w h.act h.kb (fun hs=>h.below ?_) (fun i hi hne=>h.vals i hne (hL i hi)) (fun hs=>h.stored (hL s hs));rcases hb:L.getD s false with _|_
   · rfl
   · exact absurd (hlt L s h.size hb) hs
 · intro L a w h;have hc:=h.count;rw[Nat.le_zero,List.countP_eq_zero] at hc;refine List.eq_nil_iff_forall_not_mem.2 fun i hi=>?_;obtain⟨h1,o,ho,_⟩:=mem_ready.1 hi
   have:=hc i (List.mem_range.2 (Array.getElem?_eq_some_iff.1 ho).1)
   rw[h1] at this;simp at this
 · intro n L a w i h hi;obtain⟨hu,o,ho,hdep⟩:=mem_ready.1 hi;obtain⟨hu2,hiL⟩:=Ey hu;have hio:i<ops.size:=(Array.getElem?_eq_some_iff.1 ho).1;have hcount:=vN hiL h.size hu h.count;have hset:∀ (j:Nat),(L.setIfInBounds i true).getD j false=true↔j=i∨L.getD j false=true:=fun j=>oI hiL;have hne:∀ (j:Nat),L.getD j false=true→j≠i:=fun j hj e=>by rw[e,hu2] at hj;cases hj
   obtain⟨o',ds,ho',hg,hds,hrun⟩:=hop i hio;obtain rfl:o=o':=Option.some.inj (ho.symm.trans ho');refine wpOp_step ho fun R hR=>?_;rw[if_pos (by unfold Region.wanted;rw[hg])];refine hrun R a w h.act h.kb (fun e=>h.below (by rw[←e];exact hu2)) (fun j hj=>?_) ?_ ?_
   · obtain⟨hjs,e,he,hb,rfl⟩:=hds j hj;exact h.vals _ hjs (hdep e he hb)
   · intro his v w' hb hd;refine hR _ _ ?_;have hpt:=hput i v a hio his h.act;refine⟨by rw[Array.size_setIfInBounds];exact h.size,hcount,hpt.1,h.kb.trans (.of_below hb),fun hs=>?_,fun j hjs hj=>?_,fun hs=>?_⟩
     · have hs2:L.getD s false=false:=by
        rcases hb2:L.getD s false with _|_
        · rfl
        · rw[(hset s).2 (.inr hb2)] at hs;cases hs
       exact (h.below hs2).trans (hb.mono (h.below hs2).size)
     · rcases (hset j).1 hj with rfl|hj
       · rw[hpt.2];exact hd
       · have hdn:d i≠d j:=fun e=>hne j hj (inj i j hio (hlt L j h.size hj) his hjs e).symm
         have:(a.put (some (d i)) v).tmps.getD (d j) undef=a.tmps.getD (d j) undef:=by
          show (a.tmps.setIfInBounds (d i) v).getD (d j) undef=_
          simp[Array.getElem?_setIfInBounds_ne hdn]
         rw[this];exact stable j _ _ _ hjs (h.vals j hjs hj) (.of_below hb)
     · rcases (hset s).1 hs with e|hs
       · exact absurd e.symm his
       · exact stable2 _ _ _ (h.stored hs) hb
   · intro his w' hk hd;refine hR _ _ ?_;refine⟨by rw[Array.size_setIfInBounds];exact h.size,hcount,h.act,h.kb.trans hk,fun hs=>?_,fun j hjs hj=>?_,fun _=>hd⟩
     · rw[(hset s).2 (.inl his.symm)] at hs;cases hs
     · rcases (hset j).1 hj with e|hj
       · exact absurd (e.trans his) hjs
       · exact stable j _ _ _ hjs (h.vals j hjs hj) hk
 · have hno:∀ i:Nat,(Array.replicate ops.size false).getD i false=true→False:=by
    intro i hi;rcases Nat.lt_or_ge i ops.size with h' | h'
    · simp[h'] at hi
    · simp[Nat.not_lt.2 h'] at hi
   exact⟨by simp,Nat.le_trans List.countP_le_length sm,hA0,(Kb.refl _ _).drew,fun _=>br.drew,fun i _ hi=>(hno i hi).elim,fun hi=>(hno s hi).elim⟩
end Go.Proofs.YtoigglljnklhlaaGreatDoor
