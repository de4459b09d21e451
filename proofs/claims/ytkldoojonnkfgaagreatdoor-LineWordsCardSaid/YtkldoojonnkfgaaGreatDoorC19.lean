/- Joined texts: RegInv, MapLit. -/
import Derived.Test.YtkldoojonnkfgaaGreatDoorC14
namespace Go.Proofs.YtkldoojonnkfgaaGreatDoor
open Go.RowKit Go.Sort
theorem wpAny_inv {P:Program} {md:Region.Mode} {ops:Array Oper} {Q:Exit→Act→World→Prop} (I:Nat→Array Bool→Act→World→Prop)
 (hd:∀ n L a w,I n L a w→Region.ready md ops L=[]→Q .normal a w) (h0:∀ L a w,I 0 L a w→Region.ready md ops L=[])
 (hs:∀ n L a w i,I (n+1) L a w→i∈Region.ready md ops L→wpOp P ops Q i (fun a' w'=>I n (L.setIfInBounds i true) a' w') a w) :
 ∀ n L a w,I n L a w→wpAny P md ops Q n L a w
 | 0,L,a,w,h=>⟨h0 L a w h,hd 0 L a w h (h0 L a w h)⟩
 | n+1,L,a,w,h=>⟨fun hr=>hd _ L a w h hr,fun i hi=>wpOp_mono (fun a' w' h'=>wpAny_inv I hd h0 hs n _ a' w' h') (hs n L a w i h hi)⟩
theorem wp_region_inv {P:Program} {id:Nat} {ops:Array Oper} {Q:Exit→Act→World→Prop} {a:Act} {w:World} (hm:P.follows .mixedOrders=true) (I:Nat→Array Bool→Act→World→Prop)
 (hd:∀ n L a w,I n L a w→Region.ready .any ops L=[]→Q .normal a w) (h0:∀ L a w,I 0 L a w→Region.ready .any ops L=[])
 (hs:∀ n L a w i,I (n+1) L a w→i∈Region.ready .any ops L→wpOp P ops Q i (fun a' w'=>I n (L.setIfInBounds i true) a' w') a w)
 (hi:I ops.size (Array.replicate ops.size false) a w.drew):(Code.region id ops true).wp P Q a w :=
 wp_region_any hm (wpAny_inv I hd h0 hs _ _ _ _ hi)
end Go.Proofs.YtkldoojonnkfgaaGreatDoor
namespace Go.Proofs.YtkldoojonnkfgaaGreatDoor
open Go.RowKit Go.Sort
open Go.ChangeMaps
inductive MOp
 | val (deps:List Nat)
 | mk
 | ins (key:ByteArray) (src:Nat)
 | mv (src:Nat)
def MOp.puts:MOp→Bool | .ins ..=>false | _=>true
def KCells (w w':World):Prop:=w.heap.size≤w'.heap.size∧∀ (k:Nat) (C:Array Value) (T:TypeId) (f:Nat × Nat),w.heap[k]? = some (Obj.cells C T f)→w'.heap[k]? = some (Obj.cells C T f)
theorem KCells.of_below {w w':World} (h:Below w.heap.size w w'):KCells w w':=⟨h.size,fun k _C _T _f hk=>(h.block k (Array.getElem?_eq_some_iff.1 hk).1).trans hk⟩
theorem KCells.refl (w:World):KCells w w:=⟨Nat.le_refl _,fun _ _ _ _ h=>h⟩
structure MInv (ops:Array Oper) (c:Nat→MOp) (d:Nat→Tmp) (i0:Nat) (dp:Nat→Value→World→Prop) (A:Act→Prop) (w0:World) (n:Nat) (L:Array Bool) (a:Act) (w:World):Prop where
 size:L.size=ops.size
 count:(List.range ops.size).countP (fun i=>!L.getD i true)≤n
 act:A a
 below:Below w0.heap.size w0 w
 vals:∀ i,L.getD i false=true→∀ ds,c i=.val ds→dp i (a.tmps.getD (d i) undef) w
 closed:∀ i,L.getD i false=true→(∃ k s,c i=.ins k s)∨(∃ s,c i=.mv s)→L.getD i0 false=true
 map:∃ mb,(∀ i,L.getD i false=true→c i=.mk∨(∃ s,c i=.mv s)→a.tmps.getD (d i) undef=.map (some mb)) ∧
  (L.getD i0 false=true→∃ l,w0.heap.size≤mb∧SMap w mb l ∧
   (∀ k v,sget l k=some v→∃ i src,L.getD i false=true∧c i=.ins k src∧dp src v w) ∧
   (∀ i k src,L.getD i false=true→c i=.ins k src→∃ v,sget l k=some v∧dp src v w))
theorem getD_tf {L:Array Bool} {i:Nat} (h:L.getD i true=false):L.getD i false=false∧i<L.size:=by
 rcases Nat.lt_or_ge i L.size with h' | h'
 · exact ⟨by simpa [h'] using h,h'⟩
 · simp [Array.getElem?_eq_none h'] at h
theorem getD_set_iff {L:Array Bool} {i j:Nat} (hi:i<L.size):(L.setIfInBounds i true).getD j false=true↔j=i∨L.getD j false=true:=by
 by_cases h:i=j
 · subst h; simp [hi]
 · rw [getD_set_ne false h]; exact ⟨.inr,fun e=>e.resolve_left (fun e=>h e.symm)⟩
theorem count_set {L:Array Bool} {i m n:Nat} (hi:i<L.size) (hL:L.size=m) (hu:L.getD i true=false) (h:(List.range m).countP (fun j=>!L.getD j true)≤n+1):(List.range m).countP (fun j=>!(L.setIfInBounds i true).getD j true)≤n:=by
 have e:∀ (l:List Nat),l.Nodup→i∈l→l.countP (fun j=>!(L.setIfInBounds i true).getD j true)+1≤l.countP (fun j=>!L.getD j true):=by
  intro l
  induction l with
  | nil=>intro _ h; cases h
  | cons x l ih =>
    intro hn hm
    rw [List.nodup_cons] at hn
    rcases List.mem_cons.1 hm with rfl | hm
    · rw [List.countP_cons,List.countP_cons]
      have h1:(L.setIfInBounds i true).getD i true=true:=by simp [hi]
      have h2:l.countP (fun j=>!(L.setIfInBounds i true).getD j true)=l.countP (fun j=>!L.getD j true):=by
       refine List.countP_congr fun j hj=>?_
       have hne:i≠j:=fun e=>hn.1 (e ▸ hj)
       rw [getD_set_ne true hne]
      rw [h1,hu,h2]
      simp
    · have hne:i≠x:=fun e=>hn.1 (e ▸ hm)
      rw [List.countP_cons,List.countP_cons,getD_set_ne true hne]
      have:=ih hn.2 hm
      omega
 have:=e (List.range m) List.nodup_range (List.mem_range.2 (hL ▸ hi))
 omega
theorem wp_maplit {P:Program} {id:Nat} {ops:Array Oper} {Q:Exit→Act→World→Prop} {a0:Act} {w0:World} (hm:P.follows .mixedOrders=true) {T K E:TypeId} (ht:P.underlying T=some (.map K E)) (hk:P.underlying K=some .string)
 (c:Nat→MOp) (d:Nat→Tmp) (i0:Nat) (dp:Nat→Value→World→Prop) (A:Act→Prop)
 (stable:∀ i v w w',dp i v w→KCells w w'→dp i v w') (hA0:A a0)
 (hput:∀ i v a,i<ops.size→(c i).puts=true→A a→A (a.put (some (d i)) v)∧(a.put (some (d i)) v).tmps.getD (d i) undef=v)
 (inj:∀ i j,i<ops.size→j<ops.size→(c i).puts=true→(c j).puts=true→d i=d j→i=j)
 (keys:∀ i j k s s',c i=.ins k s→c j=.ins k s'→i=j)
 (hval:∀ i ds,i<ops.size→c i=.val ds→∃ o,ops[i]? = some o∧o.guard=none∧(∀ j∈ds,∃ ds',c j=.val ds')∧(∀ j∈ds,∃ e∈o.after,Region.binds .any e=true∧e.on=j) ∧
  ∀ (R:Act→World→Prop) a w,A a→Below w0.heap.size w0 w→(∀ j∈ds,dp j (a.tmps.getD (d j) undef) w)→(∀ v w',Below w.heap.size w w'→dp i v w'→R (a.put (some (d i)) v) w')→Oper.wp P o a w R Q)
 (hmk:∀ i,i<ops.size→c i=.mk→i=i0∧∃ o,ops[i]? = some o∧o.guard=none∧o.dst=some (d i)∧o.op=Op.makeMap T none)
 (hins:∀ i k s,i<ops.size→c i=.ins k s→(∃ ds,c s=.val ds)∧∃ o,ops[i]? = some o∧o.guard=none∧o.dst=none∧o.op=Op.insert T (.tmp (d i0)) (.const (.string k)) (.tmp (d s))∧(∃ e∈o.after,Region.binds .any e=true∧e.on=i0)∧(∃ e∈o.after,Region.binds .any e=true∧e.on=s))
 (hmv:∀ i s,i<ops.size→c i=.mv s→(c s=.mk∨∃ s',c s=.mv s')∧∃ o,ops[i]? = some o∧o.guard=none∧(∃ e∈o.after,Region.binds .any e=true∧e.on=s)∧(∃ e∈o.after,Region.binds .any e=true∧e.on=i0)∧∀ (R:Act→World→Prop) a w,R (a.put (some (d i)) (a.tmps.getD (d s) undef)) w→Oper.wp P o a w R Q)
 (h0:c i0=.mk) (h0l:i0<ops.size) (hsel:∀ (i:Nat) (o:Oper),ops[i]? = some o→∀ e∈o.after,e.on<i)
 (hQ:∀ a w mb l,A a→Below w0.heap.size w0 w→w0.heap.size≤mb→SMap w mb l→(∀ i s,i<ops.size→c i=.mv s→a.tmps.getD (d i) undef=.map (some mb)) →
  (∀ k v,sget l k=some v→∃ i src,i<ops.size∧c i=.ins k src∧dp src v w)→(∀ i k src,i<ops.size→c i=.ins k src→∃ v,sget l k=some v∧dp src v w)→Q .normal a w) :
 (Code.region id ops true).wp P Q a0 w0:=by
 have hall:∀ (n:Nat) (L:Array Bool) (a:Act) (w:World),MInv ops c d i0 dp A w0 n L a w→Region.ready .any ops L=[]→∀ i,i<ops.size→L.getD i false=true:=by
  intro n L a w h hr i
  induction i using Nat.strongRecOn with
  | _ i ih =>
    intro hi
    rcases hb:L.getD i false with _ | _
    · exfalso
      have ho:ops[i]? = some ops[i]:=Array.getElem?_eq_getElem hi
      have:i∈Region.ready .any ops L:=by
       rw [mem_ready]
       refine ⟨?_,_,ho,fun e he _=>ih _ (hsel i _ ho e he) (Nat.lt_trans (hsel i _ ho e he) hi)⟩
       rw [←hb]
       simp [h.size,hi]
      rw [hr] at this
      cases this
    · rfl
 have hlt:∀ (L:Array Bool) (i:Nat),L.size=ops.size→L.getD i false=true→i<ops.size:=by
  intro L i hs h
  rcases Nat.lt_or_ge i L.size with h' | h'
  · omega
  · simp [Array.getElem?_eq_none h'] at h
 refine wp_region_inv hm (MInv ops c d i0 dp A w0) ?_ ?_ ?_ ?_
 · intro n L a w h hr
   have hL:=hall n L a w h hr
   obtain ⟨mb,hm1,hm2⟩:=h.map
   obtain ⟨l,hmb,hsm,hl1,hl2⟩:=hm2 (hL i0 h0l)
   exact hQ a w mb l h.act h.below hmb hsm (fun i s hi hc=>hm1 i (hL i hi) (.inr ⟨s,hc⟩)) (fun k v hg=>by
    obtain ⟨i,src,hi,hc,hd⟩:=hl1 k v hg
    exact ⟨i,src,hlt L i h.size hi,hc,hd⟩) (fun i k src hi hc=>hl2 i k src (hL i hi) hc)
 · intro L a w h
   have hc:=h.count
   rw [Nat.le_zero,List.countP_eq_zero] at hc
   refine List.eq_nil_iff_forall_not_mem.2 fun i hi=>?_
   obtain ⟨h1,o,ho,_⟩:=mem_ready.1 hi
   have:=hc i (List.mem_range.2 (Array.getElem?_eq_some_iff.1 ho).1)
   rw [h1] at this
   simp at this
 · intro n L a w i h hi
   obtain ⟨hu,o,ho,hdep⟩:=mem_ready.1 hi
   obtain ⟨hu2,hiL⟩:=getD_tf hu
   have hio:i<ops.size:=(Array.getElem?_eq_some_iff.1 ho).1
   have hcount:=count_set hiL h.size hu h.count
   have hdeps:∀ (j:Nat),(∃ e∈o.after,Region.binds .any e=true∧e.on=j)→L.getD j false=true:=by
    rintro j ⟨e,he,hb,rfl⟩
    exact hdep e he hb
   have hset:∀ (j:Nat),(L.setIfInBounds i true).getD j false=true↔j=i∨L.getD j false=true:=fun j=>getD_set_iff hiL
   have hne:∀ (j:Nat),L.getD j false=true→j≠i:=fun j hj e=>by rw [e,hu2] at hj; cases hj
   have hgn:∀ (o':Oper),ops[i]? = some o'→o'.guard=none→(∀ (R:Act→World→Prop),(∀ a' w',MInv ops c d i0 dp A w0 n (L.setIfInBounds i true) a' w'→R a' w')→Oper.wp P o' a w R Q)→wpOp P ops Q i (fun a' w'=>MInv ops c d i0 dp A w0 n (L.setIfInBounds i true) a' w') a w:=by
    intro o' ho' hg hw
    refine wpOp_step ho' fun K' hK'=>?_
    rw [if_pos (by unfold Region.wanted; rw [hg])]
    exact hw K' hK'
   have hkeepv:∀ (v:Value) (w':World),(c i).puts=true→KCells w w'→∀ (j:Nat),L.getD j false=true→∀ ds,c j=.val ds→dp j ((a.put (some (d i)) v).tmps.getD (d j) undef) w':=by
    intro v w' hp hk j hj ds hc
    have hjl:=hlt L j h.size hj
    have hdn:d i≠d j:=fun e=>hne j hj (inj i j hio hjl hp (by rw [hc]; rfl) e).symm
    have:(a.put (some (d i)) v).tmps.getD (d j) undef=a.tmps.getD (d j) undef:=by
     show (a.tmps.setIfInBounds (d i) v).getD (d j) undef=_
     simp [Array.getElem?_setIfInBounds_ne hdn]
    rw [this]
    exact stable j _ _ _ (h.vals j hj ds hc) hk
   have hkeepm:∀ (v:Value) (j:Nat),(c i).puts=true→L.getD j false=true→(c j).puts=true→(a.put (some (d i)) v).tmps.getD (d j) undef=a.tmps.getD (d j) undef:=by
    intro v j hp hj hpj
    have hdn:d i≠d j:=fun e=>hne j hj (inj i j hio (hlt L j h.size hj) hp hpj e).symm
    show (a.tmps.setIfInBounds (d i) v).getD (d j) undef=_
    simp [Array.getElem?_setIfInBounds_ne hdn]
   rcases hc:c i with ds | _ | ⟨key,src⟩ | src
   · -- a value
     obtain ⟨o',ho',hg,hvd,hed,hrun⟩:=hval i ds hio hc
     obtain rfl:o=o':=Option.some.inj (ho.symm.trans ho')
     have hp:(c i).puts=true:=by rw [hc]; rfl
     refine hgn o ho hg fun R hR=>?_
     refine hrun R a w h.act h.below (fun j hj=>?_) (fun v w' hb hd=>hR _ _ ?_)
     · obtain ⟨ds',hcj⟩:=hvd j hj
       exact h.vals j (hdeps j (hed j hj)) ds' hcj
     · have hk:=KCells.of_below hb
       have hpt:=hput i v a hio hp h.act
       refine ⟨by rw [Array.size_setIfInBounds]; exact h.size,hcount,hpt.1,h.below.trans (hb.mono h.below.size),fun j hj ds' hcj=>?_,fun j hj hcj=>?_,?_⟩
       · rcases (hset j).1 hj with rfl | hj
         · rw [hpt.2]; exact hd
         · exact hkeepv v w' hp hk j hj ds' hcj
       · rcases (hset j).1 hj with rfl | hj
         · rw [hc] at hcj; rcases hcj with ⟨_,_,e⟩ | ⟨_,e⟩<;>cases e
         · exact (hset i0).2 (.inr (h.closed j hj hcj))
       · obtain ⟨mb,hm1,hm2⟩:=h.map
         refine ⟨mb,fun j hj hcj=>?_,fun hj0=>?_⟩
         · rcases (hset j).1 hj with rfl | hj
           · rw [hc] at hcj; rcases hcj with e | ⟨_,e⟩<;>cases e
           · rw [hkeepm v j hp hj (by rcases hcj with e | ⟨_,e⟩<;>rw [e]<;>rfl)]
             exact hm1 j hj hcj
         · rcases (hset i0).1 hj0 with e | hj0
           · rw [←e,h0] at hc; cases hc
           · obtain ⟨l,hmb,hsm,hl1,hl2⟩:=hm2 hj0
             refine ⟨l,hmb,hsm.below hb,fun k u hg=>?_,fun j k s hj hcj=>?_⟩
             · obtain ⟨j,s,hj,hcj,hd⟩:=hl1 k u hg
               exact ⟨j,s,(hset j).2 (.inr hj),hcj,stable _ _ _ _ hd hk⟩
             · rcases (hset j).1 hj with rfl | hj
               · rw [hc] at hcj; cases hcj
               · obtain ⟨u,hg,hd⟩:=hl2 j k s hj hcj
                 exact ⟨u,hg,stable _ _ _ _ hd hk⟩
   · -- the map
     obtain ⟨rfl,o',ho',hg,hdst,hop⟩:=hmk i hio hc
     obtain rfl:o=o':=Option.some.inj (ho.symm.trans ho')
     have hp:(c i).puts=true:=by rw [hc]; rfl
     refine hgn o ho hg fun R hR=>?_
     have hrun:(Instr.makeMap T none).run P w=.ok (.map (some w.heap.size)) (w.alloc (.map #[] 0)):=by simp [Instr.makeMap]
     unfold Oper.wp
     simp only [execOp,hop,Result.andThen,Sem.run_bind,Sem.run_pure,Oper.upon,hdst]
     refine hR _ _ ?_
     have hb:Below w.heap.size w (w.alloc (.map #[] 0)):=(Below.refl _ _).alloc (Nat.le_refl _) _
     have hk:=KCells.of_below hb
     have hpt:=hput i (.map (some w.heap.size)) a hio hp h.act
     refine ⟨by rw [Array.size_setIfInBounds]; exact h.size,hcount,hpt.1,h.below.trans (hb.mono h.below.size),fun j hj ds' hcj=>?_,fun j hj hcj=>?_,?_⟩
     · rcases (hset j).1 hj with rfl | hj
       · rw [hc] at hcj; cases hcj
       · exact hkeepv _ _ hp hk j hj ds' hcj
     · exact (hset i).2 (.inl rfl)
     · refine ⟨w.heap.size,fun j hj hcj=>?_,fun _=>⟨[],h.below.size,SMap.new (by show (w.heap.push _)[_]? = _; simp),fun k v hg=>by simp [sget] at hg,fun j k s hj hcj=>?_⟩⟩
       · rcases (hset j).1 hj with rfl | hj
         · exact hpt.2
         · rcases hcj with e | ⟨s,e⟩
           · exact absurd ((hmk j (hlt L j h.size hj) e).1) (hne j hj)
           · have:=h.closed j hj (.inr ⟨s,e⟩)
             rw [hu2] at this; cases this
       · rcases (hset j).1 hj with rfl | hj
         · rw [hc] at hcj; cases hcj
         · have:=h.closed j hj (.inl ⟨k,s,hcj⟩)
           rw [hu2] at this; cases this
   · -- an entry
     obtain ⟨⟨ds,hcs⟩,o',ho',hg,hdst,hop,he0,hes⟩:=hins i key src hio hc
     obtain rfl:o=o':=Option.some.inj (ho.symm.trans ho')
     refine hgn o ho hg fun R hR=>?_
     have hl0:=hdeps i0 he0
     have hls:=hdeps src hes
     have hdv:=h.vals src hls ds hcs
     obtain ⟨mb,hm1,hm2⟩:=h.map
     obtain ⟨l,hmb,hsm,hl1,hl2⟩:=hm2 hl0
     have hmv:=hm1 i0 hl0 (.inl h0)
     obtain ⟨val,hvv⟩:∃ val,a.tmps.getD (d src) undef=val:=⟨_,rfl⟩
     rw [hvv] at hdv
     obtain ⟨ob,hrun,hs⟩:=run_sput ht hk hsm key val
     have hev:a.eval (.tmp (d i0))=.map (some mb):=hmv
     have hev2:a.eval (.tmp (d src))=val:=hvv
     have hev3:a.eval (.const (.string key))=.string key:=rfl
     unfold Oper.wp
     simp only [execOp,hop,hev,hev2,hev3,hrun,Result.andThen,Sem.run_bind,Sem.run_pure,Oper.upon]
     refine hR _ _ ?_
     have hk:KCells w (setBlock w mb ob):=by
      refine ⟨by rw [setBlock_size]; exact Nat.le_refl _,fun k C T f hk=>?_⟩
      by_cases hkm:k=mb
      · obtain ⟨es,cc,hb,_⟩:=hsm
        rw [hkm,hb] at hk; cases hk
      · exact (setBlock_other w mb ob k hkm).trans hk
     have hb:Below w0.heap.size w0 (setBlock w mb ob):=⟨h.below.os,h.below.tape,h.below.output,by rw [setBlock_size]; exact h.below.size,fun k hk=>(setBlock_other w mb ob k (by omega)).trans (h.below.block k hk)⟩
     have hpn:∀ v,a.put o.dst v=a:=fun v=>by rw [hdst]; rfl
     rw [hpn]
     refine ⟨by rw [Array.size_setIfInBounds]; exact h.size,hcount,h.act,hb,fun j hj ds' hcj=>?_,fun j hj hcj=>(hset i0).2 (.inr hl0),⟨mb,fun j hj hcj=>?_,fun _=>⟨sput l key val,hmb,hs,fun k u hg=>?_,fun j k s hj hcj=>?_⟩⟩⟩
     · rcases (hset j).1 hj with rfl | hj
       · rw [hc] at hcj; cases hcj
       · exact stable j _ _ _ (h.vals j hj ds' hcj) hk
     · rcases (hset j).1 hj with rfl | hj
       · rw [hc] at hcj; rcases hcj with e | ⟨_,e⟩<;>cases e
       · exact hm1 j hj hcj
     · rw [sget_sput] at hg
       split at hg
       · rename_i hkk
         rw [bbeq,decide_eq_true_eq] at hkk
         cases hg
         exact ⟨i,src,(hset i).2 (.inl rfl),by rw [hc,hkk],stable _ _ _ _ hdv hk⟩
       · obtain ⟨j,s,hj,hcj,hd⟩:=hl1 k u hg
         exact ⟨j,s,(hset j).2 (.inr hj),hcj,stable _ _ _ _ hd hk⟩
     · rw [sget_sput]
       rcases (hset j).1 hj with rfl | hj
       · rw [hc] at hcj
         cases hcj
         exact ⟨val,by rw [bb_self]; rfl,stable _ _ _ _ hdv hk⟩
       · have hkn:k≠key:=fun e=>hne j hj (keys j i k s src hcj (by rw [hc,e]))
         obtain ⟨u,hg,hd⟩:=hl2 j k s hj hcj
         exact ⟨u,by rw [bb_ne hkn]; exact hg,stable _ _ _ _ hd hk⟩
   · -- the map moved on
     obtain ⟨hsrc,o',ho',hg,hes,he0,hrun⟩:=hmv i src hio hc
     obtain rfl:o=o':=Option.some.inj (ho.symm.trans ho')
     have hp:(c i).puts=true:=by rw [hc]; rfl
     refine hgn o ho hg fun R hR=>?_
     refine hrun R a w (hR _ _ ?_)
     have hl0:=hdeps i0 he0
     have hls:=hdeps src hes
     obtain ⟨mb,hm1,hm2⟩:=h.map
     have hsv:=hm1 src hls hsrc
     rw [hsv]
     have hpt:=hput i (.map (some mb)) a hio hp h.act
     refine ⟨by rw [Array.size_setIfInBounds]; exact h.size,hcount,hpt.1,h.below,fun j hj ds' hcj=>?_,fun j hj hcj=>(hset i0).2 (.inr hl0),⟨mb,fun j hj hcj=>?_,fun _=>?_⟩⟩
     · rcases (hset j).1 hj with rfl | hj
       · rw [hc] at hcj; cases hcj
       · exact hkeepv _ _ hp (KCells.refl w) j hj ds' hcj
     · rcases (hset j).1 hj with rfl | hj
       · exact hpt.2
       · rw [hkeepm _ j hp hj (by rcases hcj with e | ⟨_,e⟩<;>rw [e]<;>rfl)]
         exact hm1 j hj hcj
     · obtain ⟨l,hmb,hsm,hl1,hl2⟩:=hm2 hl0
       refine ⟨l,hmb,hsm,fun k u hg=>?_,fun j k s hj hcj=>?_⟩
       · obtain ⟨j,s,hj,hcj,hd⟩:=hl1 k u hg
         exact ⟨j,s,(hset j).2 (.inr hj),hcj,hd⟩
       · rcases (hset j).1 hj with rfl | hj
         · rw [hc] at hcj; cases hcj
         · exact hl2 j k s hj hcj
 · have hno:∀ i:Nat,(Array.replicate ops.size false).getD i false=true→False:=by
    intro i hi
    rcases Nat.lt_or_ge i ops.size with h' | h'
    · simp [h'] at hi
    · simp [Nat.not_lt.2 h'] at hi
   exact ⟨by simp,Nat.le_trans List.countP_le_length (by simp),hA0,(Below.refl _ _).drew,fun i hi=>(hno i hi).elim,fun i hi=>(hno i hi).elim,⟨0,fun i hi=>(hno i hi).elim,fun hi=>(hno i0 hi).elim⟩⟩
end Go.Proofs.YtkldoojonnkfgaaGreatDoor
