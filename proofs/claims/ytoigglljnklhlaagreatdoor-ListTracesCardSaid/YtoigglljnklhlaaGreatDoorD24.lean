/- Joined. -/
import Derived.Test.YtoigglljnklhlaaGreatDoorD18
set_option maxHeartbeats 8000000
set_option maxRecDepth 100000
namespace Go.Proofs.YtoigglljnklhlaaGreatDoor
section
open Go.RowKit Go.Sort
theorem uC {P:Program} {md:Region.Mode} {ops:Array Oper} {Q:Exit→Act→World→Prop} (I:Nat→Array Bool→Act→World→Prop)
 (hd:∀ n L a w,I n L a w→Region.ready md ops L=[]→Q .normal a w) (h0:∀ L a w,I 0 L a w→Region.ready md ops L=[])
 (hs:∀ n L a w i,I (n+1) L a w→i∈Region.ready md ops L→wpOp P ops Q i (fun a' w'=>I n (L.setIfInBounds i true) a' w') a w) :
 ∀ n L a w,I n L a w→wpAny P md ops Q n L a w
 | 0,L,a,w,h=>⟨h0 L a w h,hd 0 L a w h (h0 L a w h)⟩
 | n+1,L,a,w,h=>⟨fun hr=>hd _ L a w h hr,fun i hi=>wpOp_mono (fun a' w' h'=>uC I hd h0 hs n _ a' w' h') (hs n L a w i h hi)⟩
theorem mL {P:Program} {id:Nat} {ops:Array Oper} {Q:Exit→Act→World→Prop} {a:Act} {w:World} (hm:P.follows .mixedOrders=true) (I:Nat→Array Bool→Act→World→Prop)
 (hd:∀ n L a w,I n L a w→Region.ready .any ops L=[]→Q .normal a w) (h0:∀ L a w,I 0 L a w→Region.ready .any ops L=[])
 (hs:∀ n L a w i,I (n+1) L a w→i∈Region.ready .any ops L→wpOp P ops Q i (fun a' w'=>I n (L.setIfInBounds i true) a' w') a w)
 (hi:I ops.size (Array.replicate ops.size false) a w.drew):(Code.region id ops true).wp P Q a w :=
 wp_region_any hm (uC I hd h0 hs _ _ _ _ hi)
end
section
open Go.RowKit Go.Sort
open Go.ChangeMaps
def KCells (w w':World):Prop:=w.heap.size≤w'.heap.size∧∀ (k:Nat) (C:Array Value) (T:TypeId) (f:Nat × Nat),w.heap[k]? = some (Obj.cells C T f)→w'.heap[k]? = some (Obj.cells C T f)
theorem KCells.of_below {w w':World} (h:Below w w w'):KCells w w':=⟨h.size,fun k _C _T _f hk=>(h.block k (Ql.1 hk).1).trans hk⟩
theorem KCells.refl (w:World):KCells w w:=⟨Qk _,fun _ _ _ _ h=>h⟩
theorem Ey {L:Array Bool} {i:Nat} (h:L.getD i true=false):L.getD i false=false∧i<L.size:=by
 rcases Zb i L.size with h' | h'
 · exact⟨by simpa[h'] using h,h'⟩
 · simp[Array.getElem?_eq_none h'] at h
theorem oI {L:Array Bool} {i j:Nat} (hi:i<L.size):(L.setIfInBounds i true).getD j false=true↔j=i∨L.getD j false=true:=by
 by_cases h:i=j
 · subst h;simp[hi]
 · rw[getD_set_ne false h];exact⟨.inr,fun e=>e.resolve_left (fun e=>h e.symm)⟩
theorem vN {L:Array Bool} {i m n:Nat} (hi:i<L.size) (hL:L.size=m) (hu:L.getD i true=false) (h:(List.range m).countP (fun j=>!L.getD j true)≤n+1):(List.range m).countP (fun j=>!(L.setIfInBounds i true).getD j true)≤n:=by
 have e:∀ (l:List Nat),l.Nodup→i∈l→l.countP (fun j=>!(L.setIfInBounds i true).getD j true)+1≤l.countP (fun j=>!L.getD j true):=by
  intro l;induction l with
  | nil=>intro _ h;cases h
  | cons x l ih =>
    intro hn hm;rw[Zv] at hn;rcases Xg.1 hm with rfl|hm
    · rw[List.countP_cons,List.countP_cons];have h1:(L.setIfInBounds i true).getD i true=true:=by simp[hi]
      have h2:l.countP (fun j=>!(L.setIfInBounds i true).getD j true)=l.countP (fun j=>!L.getD j true):=by
       refine List.countP_congr fun j hj=>?_;have hne:i≠j:=fun e=>hn.1 (e ▸ hj);rw[getD_set_ne true hne]
      rw[h1,hu,h2];simp
    · have hne:i≠x:=fun e=>hn.1 (e ▸ hm);rw[List.countP_cons,List.countP_cons,getD_set_ne true hne]
      have:=ih hn.2 hm
      omega
 have:=e (List.range m) List.nodup_range (Yn.2 (hL ▸ hi))
 omega
end
end Go.Proofs.YtoigglljnklhlaaGreatDoor
