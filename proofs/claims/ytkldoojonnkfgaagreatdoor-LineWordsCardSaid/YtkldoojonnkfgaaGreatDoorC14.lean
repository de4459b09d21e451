/- Joined texts: SMap. -/
import Derived.Test.YtkldoojonnkfgaaGreatDoorC07
namespace Go.Proofs.YtkldoojonnkfgaaGreatDoor
open Go.RowKit Go.Sort
open Go.ChangeMaps
theorem bbeq (s t:ByteArray):(s == t)=decide (s=t):=by
 have e:(s == t)=(s.data == t.data):=by cases s; cases t; rfl
 rw [e,Bool.eq_iff_iff,beq_iff_eq,decide_eq_true_iff]
 exact ⟨fun h=>ByteArray.ext h,fun h=>by rw [h]⟩
theorem bb_self (s:ByteArray):(s == s)=true:=by rw [bbeq]; simp
theorem bb_ne {s t:ByteArray} (h:s≠t):(s == t)=false:=by rw [bbeq]; simpa using h
def sget:List (ByteArray × Value)→ByteArray→Option Value
 | [],_=>none
 | x::l,s=>if s == x.1 then some x.2 else sget l s
def sput:List (ByteArray × Value)→ByteArray→Value→List (ByteArray × Value)
 | [],s,v=>[(s,v)]
 | x::l,s,v=>if s == x.1 then (s,v)::l else x::sput l s v
theorem sget_sput:∀ (l:List (ByteArray × Value)) (s t:ByteArray) (v:Value),sget (sput l s v) t=if t == s then some v else sget l t
 | [],s,t,v=>by simp [sput,sget]
 | x::l,s,t,v=>by
   by_cases h:s=x.1
   · subst h
     simp only [sput,bb_self,if_true,sget]
     split<;>rfl
   · have hb:(s == x.1)=false:=bb_ne h
     simp only [sput,hb,sget]
     simp only [Bool.false_eq_true,if_false,sget]
     rw [sget_sput l s t v]
     by_cases ht:t=s
     · subst ht; simp [hb,bb_self]
     · simp [bb_ne ht]
theorem sget_none:∀ {l:List (ByteArray × Value)} {s:ByteArray},sget l s=none→∀ x∈l,x.1≠s
 | [],_,_,x,hx=>by cases hx
 | y::l,s,h,x,hx=>by
   simp only [sget] at h
   split at h
   · cases h
   · rename_i hne
     rcases List.mem_cons.1 hx with rfl | hx
     · intro e; exact hne (by rw [e,bb_self])
     · exact sget_none h x hx
abbrev ekv (e:MapEntry):Value × Value:=(e.key,e.val)
def SMap (w:World) (b:Nat) (l:List (ByteArray × Value)):Prop:=∃ es c,w.heap[b]? = some (.map es c)∧es.toList.map ekv=l.map (fun x=>(Value.string x.1,x.2))∧MapKept.Stamped es c
theorem SMap.new {w:World} {b:Nat} (h:w.heap[b]? = some (.map #[] 0)):SMap w b []:=⟨#[],0,h,rfl,MapKept.stamped_empty 0⟩
theorem SMap.lt {w:World} {b:Nat} {l:List (ByteArray × Value)} (h:SMap w b l):b<w.heap.size:=by
 obtain ⟨es,c,h,_,_⟩:=h; exact (Array.getElem?_eq_some_iff.1 h).1
theorem SMap.below {w w':World} {b:Nat} {l:List (ByteArray × Value)} (h:SMap w b l) (hb:Below w.heap.size w w'):SMap w' b l:=by
 have hlt:=h.lt
 obtain ⟨es,c,h1,h2,h3⟩:=h
 exact ⟨es,c,by rw [hb.block b hlt]; exact h1,h2,h3⟩
theorem SMap.block {w w':World} {b:Nat} {l:List (ByteArray × Value)} (h:SMap w b l) (hb:w'.heap[b]? = w.heap[b]?):SMap w' b l:=by
 obtain ⟨es,c,h1,h2,h3⟩:=h
 exact ⟨es,c,by rw [hb]; exact h1,h2,h3⟩
theorem SMap.gw {w:World} {b:Nat} {l:List (ByteArray × Value)} (h:SMap w b l) (p:Regrown):SMap (gw w p) b l:=h.below (below_gw w p)
theorem SMap.alloc {w:World} {b:Nat} {l:List (ByteArray × Value)} (h:SMap w b l) (o:Obj):SMap (w.alloc o) b l:=h.below ((Below.refl _ _).alloc (Nat.le_refl _) o)
theorem SMap.setCell {w:World} {b:Nat} {l:List (ByteArray × Value)} (h:SMap w b l) (g j:Nat) (v:Value) (hne:b≠g):SMap (w.setCell ⟨g,j,none⟩ v) b l:=h.block (Below.heap_setCell w ⟨g,j,none⟩ v b hne)
theorem sfind (s:ByteArray):∀ (es:List MapEntry) (l:List (ByteArray × Value)) (i:Nat),es.map ekv=l.map (fun x=>(Value.string x.1,x.2)) →
 (sget l s=none→Instr.findNow .string (.string s) es i=some none∧∀ v c,(es++[MapEntry.mk (.string s) v c]).map ekv=(sput l s v).map (fun x=>(Value.string x.1,x.2))) ∧
 (∀ v,sget l s=some v→∃ j,Instr.findNow .string (.string s) es i=some (some (i+j,v))∧(es[j]?).map (·.key)=some (.string s)∧∀ v',(es.modify j fun e:MapEntry=>{ e with key:=.string s,val:=v' }).map ekv=(sput l s v').map (fun x=>(Value.string x.1,x.2)))
 | [],[],i,_=>⟨fun _=>⟨rfl,fun v c=>rfl⟩,fun v h=>by cases h⟩
 | [],x::l,i,h=>by simp at h
 | e::es,[],i,h=>by simp at h
 | e::es,x::l,i,h=>by
   simp only [List.map_cons,List.cons.injEq,Prod.mk.injEq] at h
   obtain ⟨⟨h1,h2⟩,h3⟩:=h
   obtain ⟨ek,ev,eb⟩:=e
   simp only at h1 h2
   subst h1 h2
   have ih:=sfind s es l (i+1) h3
   by_cases hx:s=x.1
   · have hb:(s == x.1)=true:=by rw [hx]; exact bb_self _
     refine ⟨fun h=>?_,fun v h=>⟨0,?_,?_,fun v'=>?_⟩⟩
     · simp [sget,hb] at h
     · simp only [sget,hb,if_true,Option.some.injEq] at h
       subst h
       simp [Instr.findNow,Instr.sameNow,hb]
     · subst hx; rfl
     · simp only [sput,hb,if_true,List.map_cons,←h3]
       simp
   · have hb:(s == x.1)=false:=bb_ne hx
     refine ⟨fun h=>?_,fun v h=>?_⟩
     · simp only [sget,hb,Bool.false_eq_true,if_false] at h
       obtain ⟨e1,e2⟩:=ih.1 h
       refine ⟨?_,fun v c=>?_⟩
       · simp only [Instr.findNow,Instr.sameNow,hb]; exact e1
       · simp only [sput,hb,Bool.false_eq_true,if_false,List.map_cons,List.cons_append,e2 v c]
     · simp only [sget,hb,Bool.false_eq_true,if_false] at h
       obtain ⟨j,e1,e2,e3⟩:=ih.2 v h
       refine ⟨j+1,?_,?_,fun v'=>?_⟩
       · simp only [Instr.findNow,Instr.sameNow,hb]; rw [e1]; congr 3; omega
       · simpa using e2
       · simp only [sput,hb,Bool.false_eq_true,if_false,List.map_cons]
         rw [←e3 v']
         simp
section
variable {P:Program} {T K E:TypeId}
theorem run_sget (ht:P.underlying T=some (.map K E)) (hk:P.underlying K=some .string) {z:Value} (hz:∀ w,(zeroValue E).run P w=.ok z w) {w:World} {b:Nat} {l:List (ByteArray × Value)} (h:SMap w b l) (s:ByteArray) (ok:Bool) :
 (Instr.lookup T (.map (some b)) (.string s) ok).run P w=.ok (if ok then .tuple #[(sget l s).getD z,.bool (sget l s).isSome] else (sget l s).getD z) w:=by
 obtain ⟨es,c,hb,he,hst⟩:=h
 have hkey:∀ em,(Instr.checkKey em 10000 K (.string s)).run P w=.ok () w:=fun em=>MapKept.run_checkKey (k:=.string s) hk (by simp [MapKept.IsKey]) em 9999
 have hf:=sfind s es.toList l 0 he
 rcases hg:sget l s with _ | v
 · have hfind:(Instr.findKey K (.string s) es.toList).run P w=.ok none w:=by simp [Instr.findKey,run_underlying hk,(hf.1 hg).1]
   cases ok<;>simp [Instr.lookup,run_underlying ht,MapKept.run_getObj_map hb,hkey,hfind,Result.andThen,hz]
 · obtain ⟨j,e1,_⟩:=hf.2 v hg
   have hfind:(Instr.findKey K (.string s) es.toList).run P w=.ok (some (0+j,v)) w:=by simp only [Instr.findKey]; simp [run_underlying hk,e1]
   cases ok<;>simp [Instr.lookup,run_underlying ht,MapKept.run_getObj_map hb,hkey,hfind,Result.andThen]
theorem run_sput (ht:P.underlying T=some (.map K E)) (hk:P.underlying K=some .string) {w:World} {b:Nat} {l:List (ByteArray × Value)} (h:SMap w b l) (s:ByteArray) (v:Value) :
 ∃ o,(Instr.mapUpdate T (.map (some b)) (.string s) v).run P w=.ok () (setBlock w b o)∧SMap (setBlock w b o) b (sput l s v):=by
 have hlt:=h.lt
 obtain ⟨es,c,hb,he,hst⟩:=h
 have hkey:∀ em,(Instr.checkKey em 10000 K (.string s)).run P w=.ok () w:=fun em=>MapKept.run_checkKey (k:=.string s) hk (by simp [MapKept.IsKey]) em 9999
 have hf:=sfind s es.toList l 0 he
 rcases hg:sget l s with _ | u
 · have hfind:(Instr.findKey K (.string s) es.toList).run P w=.ok none w:=by simp [Instr.findKey,run_underlying hk,(hf.1 hg).1]
   have hne:∀ x∈es.toList,x.key≠.string s:=fun x hx e=>by
    have h1:(x.key,x.val)∈es.toList.map ekv:=List.mem_map_of_mem (f:=ekv) hx
    rw [he] at h1
    obtain ⟨y,hy,e2⟩:=List.mem_map.1 h1
    simp only [Prod.mk.injEq] at e2
    rw [←e2.1] at e
    cases e
    exact sget_none hg y hy rfl
   refine ⟨.map (es.push ⟨.string s,v,c⟩) (c+1),?_,_,_,setBlock_at _ _ _ hlt,?_,MapKept.stamped_push hst hne⟩
   · simp [Instr.mapUpdate,run_underlying ht,MapKept.run_getObj_map hb,hkey,hfind,MapKept.run_setObj_map _ hb,Result.andThen]
     rfl
   · rw [Array.toList_push]; exact (hf.1 hg).2 v c
 · obtain ⟨j,e1,e2,e3⟩:=hf.2 u hg
   rw [Nat.zero_add] at e1
   have hfind:(Instr.findKey K (.string s) es.toList).run P w=.ok (some (j,u)) w:=by simp only [Instr.findKey]; simp [run_underlying hk,e1]
   refine ⟨.map (es.modify j fun e:MapEntry=>{ e with key:=.string s,val:=v }) c,?_,_,_,setBlock_at _ _ _ hlt,?_,MapKept.stamped_modify hst j _ (fun _ _=>rfl) (fun e _ hej=>by rw [Array.getElem?_toList] at e2; rw [hej] at e2; simp only [Option.map_some,Option.some.injEq] at e2; exact e2.symm)⟩
   · have hes:(es[j]?).map (·.key)=some (.string s):=by rw [←e2]; simp
     have hsta:(Instr.keyThatStays (((es[j]?).map (·.key)).getD (.string s)) (.string s)).run P w=.ok (.string s) w:=by
      rw [hes]
      simp [Instr.keyThatStays,Instr.sameBits,bb_self]
     simp [Instr.mapUpdate,run_underlying ht,MapKept.run_getObj_map hb,hkey,hfind,hsta,MapKept.run_setObj_map _ hb,Result.andThen]
     rfl
   · rw [←e3 v]; simp
end
end Go.Proofs.YtkldoojonnkfgaaGreatDoor
