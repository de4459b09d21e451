/- Joined texts: WordT, NamedT. -/
import Derived.Test.YtkldoojonnkfgaaGreatDoorC21
namespace Go.Proofs.YtkldoojonnkfgaaGreatDoor
open Go.RowKit Go.Sort
abbrev opW (o:Op3):Value:=.agg #[.int .i64 o.1,.int .i64 o.2.1,.int .i64 o.2.2]
def wreg (o:Op3):Int:=if o.1=3 then o.2.1 else 8
def wordV (s:List UInt8):Op3 :=
 if Lib.hasPrefix s [40]=false then (namedO ⟨s.toArray⟩).headD (0,0,0)
 else (4,wreg ((namedO ⟨(Lib.trimSuffix (Lib.trimPrefix s [40]) [41]).toArray⟩).headD (0,0,0)),0)
def wordC (s:List UInt8):Bool:=decide (s.length≤100) && if Lib.hasPrefix s [40]=false then decide (namedO ⟨s.toArray⟩≠[]) else decide (namedO ⟨(Lib.trimSuffix (Lib.trimPrefix s [40]) [41]).toArray⟩≠[])
set_option maxHeartbeats 1000000 in
theorem word_any (s:List UInt8) (w:World) (h:wordC s=true):Calls Tryz.prog 357 #[.string ⟨s.toArray⟩] w fun e w'=>e=.returned (opW (wordV s))∧Below w.heap.size w w':=by
 unfold wordC at h
 rw [Bool.and_eq_true,decide_eq_true_eq] at h
 obtain ⟨hl,h⟩:=h
 have hcp:=fun w=>Tryz.strings_CutPrefix ⟨s.toArray⟩ ⟨#[40]⟩ w
 simp only at hcp
 rcases hp:Lib.hasPrefix s [40] with _ | _
 · rw [if_pos hp] at h
   have hv:wordV s=(namedO ⟨s.toArray⟩).headD (0,0,0):=by unfold wordV; rw [if_pos hp]
   rw [hv]
   obtain ⟨⟨x0,x1,x2⟩,rest,hx⟩:∃ x rest,namedO ⟨s.toArray⟩=x::rest:=by
    cases hn:namedO ⟨s.toArray⟩ with
    | nil=>rw [hn] at h; simp at h
    | cons x r=>exact ⟨x,r,rfl⟩
   have hnm:=namedO_any ⟨s.toArray⟩
   rw [hx] at hnm
   rw [hx]
   rw [hp] at hcp
   have HCP:=Hh hcp; clear hcp
   have HN:=Hh hnm; clear hnm
   clear hp hv h hx
   go_enter Tryz.func357,Tryz.ntmps357
   go_wp2_with fail
   refine (HCP.out _).mono ?_
   rintro e w1 ⟨rfl,rfl⟩
   go_wp2_with fail
   refine (HN.out _ (by show s.toArray.size≤_; rw [List.size_toArray]; unfold maxLen; omega)).mono ?_
   rintro e w2 ⟨v,rfl,hr,hb⟩
   obtain ⟨a,c,rfl,hc,hr⟩:=hr.op
   obtain ⟨g,o,rfl,hg,hr⟩:=hr (by simp)
   obtain ⟨c0,c1,c2⟩:=hr 0 _ rfl
   simp only [Nat.zero_mul,Nat.add_zero] at c0 c1 c2
   obtain ⟨k0,k1,k2,f0,f1,f2⟩:=cells3 (box_kept hb)
   have hbw:=below_of_alloc hb
   clear hb
   have HR:=Hh hr; clear hr
   have HBW:=Hh hbw; clear hbw
   have hsz:0<((x0,x1,x2)::rest).length:=by simp
   generalize ((x0,x1,x2)::rest).length=N at *
   go_wp2_with fail
   refine bodyPost_ret (v:=opW (x0,x1,x2)) (by simp [results,Tryz.results357,go_sem,k0,k1,k2]) rfl ⟨rfl,((HBW.out.setCell (p:=⟨w.heap.size,0,none⟩) (Nat.le_refl _) _).setCell (p:=⟨w.heap.size,1,none⟩) (Nat.le_refl _) _).setCell (p:=⟨w.heap.size,2,none⟩) (Nat.le_refl _) _⟩
 · rw [if_neg (by rw [hp]; decide)] at h
   have hv:wordV s=(4,wreg ((namedO ⟨(Lib.trimSuffix (Lib.trimPrefix s [40]) [41]).toArray⟩).headD (0,0,0)),0):=by unfold wordV; rw [if_neg (by rw [hp]; decide)]
   rw [hv]
   have hts:=fun w=>Tryz.strings_TrimSuffix ⟨(Lib.trimPrefix s [40]).toArray⟩ ⟨#[41]⟩ w
   simp only at hts
   have htl:(Lib.trimPrefix s [40]).length≤100:=by unfold Lib.trimPrefix; split<;>(try rw [List.length_drop])<;>omega
   have htl2:(Lib.trimSuffix (Lib.trimPrefix s [40]) [41]).length≤100:=by unfold Lib.trimSuffix; split<;>(try rw [List.length_take])<;>omega
   generalize Lib.trimSuffix (Lib.trimPrefix s [40]) [41]=q at *
   generalize Lib.trimPrefix s [40]=r at *
   obtain ⟨⟨x0,x1,x2⟩,rest,hx⟩:∃ x rest,namedO ⟨q.toArray⟩=x::rest:=by
    cases hn:namedO ⟨q.toArray⟩ with
    | nil=>rw [hn] at h; simp at h
    | cons x r=>exact ⟨x,r,rfl⟩
   have hnm:=namedO_any ⟨q.toArray⟩
   rw [hx] at hnm
   rw [hx]
   rw [hp] at hcp
   have HCP:=Hh hcp; clear hcp
   have HTS:=Hh hts; clear hts
   have HN:=Hh hnm; clear hnm
   clear hp hv h hx
   simp only [List.headD_cons]
   by_cases h3:x0=3
   · subst h3
     rw [show wreg (3,x1,x2)=x1 from rfl]
     go_enter Tryz.func357,Tryz.ntmps357
     go_wp2_with fail
     refine (HCP.out _).mono ?_
     rintro e w1 ⟨rfl,rfl⟩
     go_wp2_with fail
     refine (HTS.out _ (by show r.toArray.size≤_; rw [List.size_toArray]; omega)).mono ?_
     rintro e w1 ⟨rfl,rfl⟩
     go_wp2_with fail
     refine (HN.out _ (by show q.toArray.size≤_; rw [List.size_toArray]; unfold maxLen; omega)).mono ?_
     rintro e w2 ⟨v,rfl,hr,hb⟩
     obtain ⟨a,c,rfl,hc,hr⟩:=hr.op
     obtain ⟨g,o,rfl,hg,hr⟩:=hr (by simp)
     obtain ⟨c0,c1,c2⟩:=hr 0 _ rfl
     simp only [Nat.zero_mul,Nat.add_zero] at c0 c1 c2
     obtain ⟨k0,k1,k2,f0,f1,f2⟩:=cells3 (box_kept hb)
     have hlt:w.heap.size<w2.heap.size:=by have:=hb.size; rw [World.size_alloc] at this; omega
     have hbw:=below_of_alloc hb
     clear hb
     have HR:=Hh hr; clear hr
     have HBW:=Hh hbw; clear hbw
     have hsz:0<((3,x1,x2)::rest:List Op3).length:=by simp
     generalize ((3,x1,x2)::rest:List Op3).length=N at *
     go_wp2_with fail
     refine bodyPost_ret (v:=opW (4,x1,0)) (by simp [results,Tryz.results357,go_sem,k0,k1,k2,hlt]) rfl ⟨rfl,?_⟩
     exact (((HBW.out.setCell (p:=⟨w.heap.size,0,none⟩) (Nat.le_refl _) _).setCell (p:=⟨w.heap.size,1,none⟩) (Nat.le_refl _) _).setCell (p:=⟨w.heap.size,2,none⟩) (Nat.le_refl _) _).alloc (by simp [World.setCell]; omega) _
   · rw [show wreg (x0,x1,x2)=8 from if_neg h3]
     have hb3:(x0 == 3)=false:=by simpa using h3
     clear h3
     go_enter Tryz.func357,Tryz.ntmps357
     go_wp2_with fail
     refine (HCP.out _).mono ?_
     rintro e w1 ⟨rfl,rfl⟩
     go_wp2_with fail
     refine (HTS.out _ (by show r.toArray.size≤_; rw [List.size_toArray]; omega)).mono ?_
     rintro e w1 ⟨rfl,rfl⟩
     go_wp2_with fail
     refine (HN.out _ (by show q.toArray.size≤_; rw [List.size_toArray]; unfold maxLen; omega)).mono ?_
     rintro e w2 ⟨v,rfl,hr,hb⟩
     obtain ⟨a,c,rfl,hc,hr⟩:=hr.op
     obtain ⟨g,o,rfl,hg,hr⟩:=hr (by simp)
     obtain ⟨c0,c1,c2⟩:=hr 0 _ rfl
     simp only [Nat.zero_mul,Nat.add_zero] at c0 c1 c2
     obtain ⟨k0,k1,k2,f0,f1,f2⟩:=cells3 (box_kept hb)
     have hlt:w.heap.size<w2.heap.size:=by have:=hb.size; rw [World.size_alloc] at this; omega
     have hbw:=below_of_alloc hb
     clear hb
     have HR:=Hh hr; clear hr
     have HBW:=Hh hbw; clear hbw
     have hsz:0<((x0,x1,x2)::rest:List Op3).length:=by simp
     generalize ((x0,x1,x2)::rest:List Op3).length=N at *
     go_wp2_with fail
     refine bodyPost_ret (v:=opW (4,8,0)) (by simp [results,Tryz.results357,go_sem,k0,k1,k2,hlt]) rfl ⟨rfl,?_⟩
     exact (((HBW.out.setCell (p:=⟨w.heap.size,0,none⟩) (Nat.le_refl _) _).setCell (p:=⟨w.heap.size,1,none⟩) (Nat.le_refl _) _).setCell (p:=⟨w.heap.size,2,none⟩) (Nat.le_refl _) _).alloc (by simp [World.setCell]; omega) _
set_option maxHeartbeats 1000000 in
theorem namedT_any (l:List UInt8) (n:Nat) (x:List UInt8) (w:World) (hT:TabsA w) (hl:l.length≤1000) (ha:l.all (fun b=>decide (b.toNat<128))=true) (hx:(Lib.fields l)[n]? = some x) (hc:wordC x=true) :
 Calls Tryz.prog 383 #[.string ⟨l.toArray⟩,.int .i64 n] w fun e w'=>e=.returned (opW (wordV x))∧Below w.heap.size w w':=by
 have hlt:n<(Lib.fields l).length:=(List.getElem?_eq_some_iff.1 hx).1
 have hwa:=fun w=>word_any x w hc
 generalize wordV x=r at *
 obtain ⟨r0,r1,r2⟩:=r
 have hT2:TabsA (w.alloc (.cells #[.int .i64 0,.int .i64 0,.int .i64 0] 172)):=hT.below ((Below.refl _ _).alloc (Nat.le_refl _) _)
 have hfa:=fields_any l _ hT2 (by omega) ha
 have hcell:∀ w:World,(w.alloc (.cells ((Lib.fields l).map fun x=>Value.string ⟨x.toArray⟩).toArray 9)).cell? ⟨w.heap.size,n,none⟩=some (.string ⟨x.toArray⟩):=fun w=>by
  rw [World.cell?_alloc_at _ _ _ _ rfl]
  simp [hx]
 have hc2:=hcell (w.alloc (.cells #[.int .i64 0,.int .i64 0,.int .i64 0] 172))
 simp only [World.size_alloc] at hc2
 generalize (Lib.fields l).length=N at *
 generalize Obj.cells ((Lib.fields l).map fun x=>Value.string ⟨x.toArray⟩).toArray 9=O at *
 have HFA:=Hh hfa; clear hfa hcell
 have HW:=Hh hwa; clear hwa
 have hi:(n:Int)<N:=by omega
 clear hx hT hT2 ha
 go_enter Tryz.func383,Tryz.ntmps383
 go_wp2_with fail
 refine HFA.out.mono ?_
 rintro e w1 ⟨rfl,rfl⟩
 go_wp2_with fail
 refine (HW.out _).mono ?_
 rintro e w2 ⟨rfl,hb⟩
 have hlt2:=hb.size
 simp only [World.size_alloc] at hlt2
 have hkb:w2.heap[w.heap.size]? = some (.cells #[.int .i64 0,.int .i64 0,.int .i64 0] 172):=(hb.block _ (by simp; omega)).trans (by rw [Below.heap_alloc _ _ _ (by simp)]; show (w.heap.push _)[w.heap.size]? = _; simp)
 obtain ⟨k0,k1,k2,f0,f1,f2⟩:=cells3 hkb
 have HBW:=Hh ((show Below w.heap.size w _ from bl).trans (hb.mono (by simp; omega))); clear hb hkb
 go_wp2_with fail
 refine bodyPost_ret (v:=opW (r0,r1,r2)) (by simp [results,Tryz.results383,go_sem,k0,k1,k2]) rfl ⟨rfl,?_⟩
 exact ((HBW.out.setCell (p:=⟨w.heap.size,0,none⟩) (Nat.le_refl _) _).setCell (p:=⟨w.heap.size,1,none⟩) (Nat.le_refl _) _).setCell (p:=⟨w.heap.size,2,none⟩) (Nat.le_refl _) _
end Go.Proofs.YtkldoojonnkfgaaGreatDoor
