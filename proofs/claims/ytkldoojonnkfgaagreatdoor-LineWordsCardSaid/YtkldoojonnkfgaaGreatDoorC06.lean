/- Joined texts: Words, Named, NamedO. -/
import Derived.Test.YtkldoojonnkfgaaGreatDoorC03
import Derived.Shelf.Abstract
namespace Go.Proofs.YtkldoojonnkfgaaGreatDoor
open Go.RowKit Go.Sort
def kindAt:Nat→Nat | 0=>1 | 1=>2 | 2=>3 | 3=>8 | _=>9
theorem kindAt_bd (i:Nat):1≤kindAt i∧kindAt i≤10:=by unfold kindAt; split<;>omega
def opCells (l:List (Nat × Nat)):List Value:=l.flatMap fun x=>[.int .i64 x.1,.int .i64 x.2,.int .i64 0]
def wl (p:ByteArray→Bool) (k r:Nat):List (Nat × Nat):=((List.range r).filter fun j=>!(nm k j).toList.isEmpty && p (nm k j)).map fun j=>(k,j)
def wlist (p:ByteArray→Bool) (i:Nat):List (Nat × Nat):=(List.range i).flatMap fun j=>wl p (kindAt j) 9
theorem opCells_append (l m:List (Nat × Nat)):opCells (l++m)=opCells l++opCells m:=by simp [opCells]
theorem wl_hit (p:ByteArray→Bool) (k r:Nat) (h:(nm k r).toList.isEmpty=false) (hp:p (nm k r)=true):wl p k (r+1)=wl p k r++[(k,r)]:=by
 simp [wl,List.range_succ,List.filter_append,h,hp]
theorem wl_miss (p:ByteArray→Bool) (k r:Nat) (h:(nm k r).toList.isEmpty=true∨p (nm k r)=false):wl p k (r+1)=wl p k r:=by
 rcases h with h | h<;>simp [wl,List.range_succ,List.filter_append,h]
theorem wlist_succ (p:ByteArray→Bool) (i:Nat):wlist p (i+1)=wlist p i++wl p (kindAt i) 9:=by
 simp [wlist,List.range_succ]
theorem wl_len (p:ByteArray→Bool) (k r:Nat):(wl p k r).length≤r:=by
 unfold wl; rw [List.length_map]
 exact Nat.le_trans (List.length_filter_le _ _) (by simp)
theorem wlist_len (p:ByteArray→Bool):∀ i,(wlist p i).length≤i * 9
 | 0=>by simp [wlist]
 | i+1=>by have:=wlist_len p i; have:=wl_len p (kindAt i) 9; rw [wlist_succ,List.length_append]; omega
theorem owns_below {w w':World} {base:Nat} {e:TypeId} {size:Nat} {v:Value} {n:Nat} {xs:List Value} (h:w.ownsRow base e size v n xs) (hb:Below w.heap.size w w'):w'.ownsRow base e size v n xs:=by
 obtain ⟨h1,h2⟩:=h
 refine ⟨h1,?_⟩
 rcases h2 with h2 | ⟨g,cap,cur,hv,hg,hh,r⟩
 · exact Or.inl h2
 · exact Or.inr ⟨g,cap,cur,hv,hg,by rw [hb.block g (lt_of_block hh)]; exact hh,r⟩
theorem index9 (a0 a1 a2 a3 a4 a5 a6 a7 a8:ByteArray) (f:Nat→ByteArray) (h0:f 0=a0) (h1:f 1=a1) (h2:f 2=a2) (h3:f 3=a3) (h4:f 4=a4) (h5:f 5=a5) (h6:f 6=a6) (h7:f 7=a7) (h8:f 8=a8) (r:Nat) (hr:r<9) (w:World) :
 (Instr.index 263 (.agg #[.string a0,.string a1,.string a2,.string a3,.string a4,.string a5,.string a6,.string a7,.string a8]) (.int .i64 r)).run Tryz.prog w=.ok (.string (f r)) w:=by
 subst h0 h1 h2 h3 h4 h5 h6 h7 h8
 have hr':r=0∨r=1∨r=2∨r=3∨r=4∨r=5∨r=6∨r=7∨r=8:=by omega
 rcases hr' with rfl | rfl | rfl | rfl | rfl | rfl | rfl | rfl | rfl<;>(revert w; intro w; change _=_; kernel_rfl)
theorem index5 (i:Nat) (hi:i<5) (w:World) :
 (Instr.index 360 (.agg #[.int .i64 1,.int .i64 2,.int .i64 3,.int .i64 8,.int .i64 9]) (.int .i64 i)).run Tryz.prog w=.ok (.int .i64 (kindAt i)) w:=by
 have hr':i=0∨i=1∨i=2∨i=3∨i=4:=by omega
 rcases hr' with rfl | rfl | rfl | rfl | rfl<;>(revert w; intro w; change _=_; kernel_rfl)
theorem Tryz.infoOperand:(Tryz.prog.info? 172).map (fun i=>(i.zero,i.size,i.bytes))=some (some (.agg #[.int .i64 0,.int .i64 0,.int .i64 0]),3,24):=by kernel_rfl
set_option maxHeartbeats 1000000 in
set_option maxRecDepth 100000 in
theorem words_any (p:ByteArray→Bool) (g:Nat) (lb:Array Value) (w:World) (hent:∀ args w,(callFunc g args).run Tryz.prog w=.ok (.enter g args) w)
 (hok:∀ s W,Below w.heap.size w W→Calls Tryz.prog g (#[.string s]++lb) W fun e w'=>e=.returned (.bool (p s))∧W=w') :
 Calls Tryz.prog 229 #[.func (.func g) #[] lb] w fun e w'=>∃ v,e=.returned v∧w'.ownsRow w.heap.size 172 3 v (wlist p 5).length (opCells (wlist p 5))∧Below w.heap.size w w':=by
 obtain ⟨i0,hi,hz0,hz1,hz2⟩:=info_parts Tryz.infoOperand
 have HOK:=Hh hok; clear hok
 obtain ⟨B,hB⟩:∃ B,w.heap.size=B:=⟨_,rfl⟩
 rw [hB] at HOK ⊢
 have HB:=Hh hB; clear hB
 go_enter Tryz.func229,Tryz.ntmps229
 go_wp2_with fail
 go_loopw [3,11] (fun v i wr=>∃ j:Nat,j≤5∧i=.int .i64 j∧wr.ownsRow B 172 3 v (wlist p j).length (opCells (wlist p j))∧Below B w wr) (fun _ i _=>5 - (intOf i).toNat)
 case atStart=>exact ⟨0,Nat.zero_le _,rfl,World.ownsRow_nil _ _ _ _,Below.refl _ _⟩
 case round =>
  obtain ⟨j,hj,rfl,hown,hbel⟩:=hrel
  by_cases hlt:j<5
  · have hix:=index5 j hlt
    obtain ⟨k,hk⟩:∃ k,kindAt j=k:=⟨_,rfl⟩
    have hkb:=kindAt_bd j
    rw [hk] at hix hkb
    obtain ⟨hk1,hk2⟩:=hkb
    have Hk:=Hh hk; clear hk
    have HOWN:=Hh hown; clear hown
    go_wp2_with fail
    refine (find_yes k _ hk1 hk2).mono ?_
    rintro e w1 ⟨rfl,hb⟩
    obtain ⟨p1,rfl⟩:=gw_of_below hb
    clear hb hix
    go_wp2_with fail
    obtain ⟨wo,rfl⟩:∃ wo:World,wo=wr:=⟨_,rfl⟩
    have hsz:B≤wo.heap.size:=by have:=hbel.size; have:=HB.out; omega
    have hbel1:Below B w ((gw wo p1).alloc (.cells #[.string (nm k 0),.string (nm k 1),.string (nm k 2),.string (nm k 3),.string (nm k 4),.string (nm k 5),.string (nm k 6),.string (nm k 7),.string (nm k 8),.int .i64 (klo k),.int .i64 (khi k),.func (.func (kf k)) #[] #[]] 266)):=(below_gw' hbel hsz p1).alloc (by simp [go_sem]; omega) _
    have hown1:=(owns_below HOWN.out (below_gw wo p1)).alloc (.cells #[.string (nm k 0),.string (nm k 1),.string (nm k 2),.string (nm k 3),.string (nm k 4),.string (nm k 5),.string (nm k 6),.string (nm k 7),.string (nm k 8),.int .i64 (klo k),.int .i64 (khi k),.func (.func (kf k)) #[] #[]] 266)
    have HBEL1:=Hh hbel1; clear hbel1
    have HOWN1:=Hh hown1; clear hown1
    clear hbel
    go_loopw [3,21] (fun v i wr=>∃ r:Nat,r≤9∧i=.int .i64 r∧wr.ownsRow B 172 3 v (wlist p j++wl p k r).length (opCells (wlist p j++wl p k r))∧Below B w wr) (fun _ i _=>9 - (intOf i).toNat)
    case atStart=>exact ⟨0,Nat.zero_le _,rfl,by simpa [wl] using HOWN1.out,HBEL1.out⟩
    case round =>
     obtain ⟨r,hr,rfl,hown,hbel⟩:=hrel
     by_cases hrlt:r<9
     · have hix:=fun w=>index9 (nm k 0) (nm k 1) (nm k 2) (nm k 3) (nm k 4) (nm k 5) (nm k 6) (nm k 7) (nm k 8) (nm k) rfl rfl rfl rfl rfl rfl rfl rfl rfl r hrlt w
       have HOWN2:=Hh hown; clear hown
       by_cases hne:(nm k r).toList.isEmpty=true
       · go_wp2_with fail
         go_roundw
         case rel=>exact ⟨r+1,by omega,by go_num,by rw [wl_miss p k r (.inl hne)]; exact HOWN2.out,hbel⟩
         case measure=>simp [intOf]; omega
       · have hne':(nm k r).toList.isEmpty=false:=by simpa using hne
         clear hne
         have HBEL:=Hh hbel; clear hbel
         go_wp2_with fail
         refine (HOK.out _ _ HBEL.out).mono ?_
         rintro e w1 ⟨rfl,rfl⟩
         rcases hp:p (nm k r) with _ | _
         · go_wp2_with fail
           go_roundw
           case rel=>exact ⟨r+1,by omega,by go_num,by rw [wl_miss p k r (.inr hp)]; exact HOWN2.out,HBEL.out⟩
           case measure=>simp [intOf]; omega
         · have hlen:=wlist_len p j
           have hlen2:=wl_len p k r
           have HP:=Hh hp; clear hp
           go_wp2_with (at_builtin; refine wpList_append_own _ rfl _ _ 22 rfl B 172 i0 (.agg #[.int .i64 0,.int .i64 0,.int .i64 0]) 3 24 Tryz.underlying22 hi hz0 hz1 hz2 rfl (by decide) _ _ _ rfl (HOWN2.out.alloc _) ⟨wr.heap.size,0,none⟩ 1 1 [.int .i64 k,.int .i64 r,.int .i64 0] rfl rfl ?c1 ?c2 ?c3 ?c4 ?c5 ?_)
           case c1 =>
            intro q u hq
            rw [addr_add]
            match q,hq with
            | 0,hq=>simp at hq; subst hq; simp [go_sem]
            | 1,hq=>simp at hq; subst hq; simp [go_sem]
            | 2,hq=>simp at hq; subst hq; simp [go_sem]
           case c2=>intro u hu; simp at hu; rcases hu with rfl | rfl | rfl<;>rfl
           case c3=>rw [List.length_append]; unfold maxLen; omega
           case c4=>rw [List.length_append]; omega
           case c5=>have:=HBEL.out.size; have:=HB.out; simp; omega
           intro v' w1 hown' hgrow _
           have hb':Below B w w1:=(HBEL.out.alloc (by have:=HBEL.out.size; have:=HB.out; omega) _).grown hgrow (by have:=HBEL.out.size; have:=HB.out; simp; omega) (by
            intro q hq
            have:=HOWN2.out.2
            rcases this with ⟨h,_⟩ | ⟨g,cap,cur,h,hg,_⟩
            · rw [h] at hq; cases hq
            · rw [h] at hq; cases hq; exact hg)
           have HOWN3:=Hh hown'; clear hown'
           have HB':=Hh hb'; clear hb' hgrow
           go_wp2_with fail
           go_roundw
           case rel=>exact ⟨r+1,by omega,by go_num,by rw [wl_hit p k r hne' HP.out,←List.append_assoc,opCells_append,List.length_append,List.length_append]; exact HOWN3.out,HB'.out⟩
           case measure=>simp [intOf]; omega
     · obtain rfl:r=9:=by omega
       have HOWN2:=Hh hown; clear hown
       go_wp2_with fail
       go_roundw
       case rel=>exact ⟨j+1,by omega,by go_num,by rw [wlist_succ,Hk.out]; exact HOWN2.out,hbel⟩
       case measure=>simp [intOf]; omega
  · obtain rfl:j=5:=by omega
    have HOWN:=Hh hown; clear hown
    go_wp2_with fail
    go_ret
    exact ⟨_,rfl,HOWN.out,hbel⟩
def namedL (s:ByteArray):List (Nat × Nat):=wlist (fun x=>x.toList == (upper s).toList) 5
set_option maxHeartbeats 400000 in
theorem named1 (s u:ByteArray) (b:Nat) (w:World) (hc:w.cell? ⟨b,0,none⟩=some (.string u)) :
 Calls Tryz.prog 230 #[.string s,.pointer (some ⟨b,0,none⟩)] w fun e w'=>e=.returned (.bool (s.toList == u.toList))∧w=w':=by
 go_enter Tryz.func230,Tryz.ntmps230
 go_wp2
 go_ret
 exact ⟨rfl,rfl⟩
set_option maxHeartbeats 400000 in
theorem named_any (s:ByteArray) (w:World) (hs:s.size≤maxLen) :
 Calls Tryz.prog 145 #[.string s] w fun e w'=>∃ v,e=.returned v∧Row w' v (namedL s).length (opCells (namedL s))∧Below w.heap.size w w':=by
 go_enter Tryz.func145,Tryz.ntmps145
 go_wp2_with fail
 refine (upper_any s _ hs).mono ?_
 rintro e w1 ⟨rfl,hb⟩
 obtain ⟨p1,rfl⟩:=gw_of_below hb
 clear hb
 go_wp2_with fail
 refine (words_any (fun x=>x.toList == (upper s).toList) 230 _ _ (enters_of Tryz.func230 (by kernel_rfl) rfl) ?hok).mono ?_
 case hok =>
  intro x W hb
  refine named1 x (upper s) _ W ?_
  rw [hb.cell (by simp [go_sem])]
  simp [go_sem]
 rintro e w2 ⟨v,rfl,hown,hb⟩
 have HOWN:=Hh hown; clear hown
 have HB:=Hh hb; clear hb
 go_wp2_with fail
 go_ret
 refine ⟨_,rfl,Row.of_owns HOWN.out,?_⟩
 refine Below.trans (b:=((gw w p1).alloc (.cells #[.string (upper s)] 9))) (bl) (HB.out.mono (by simp [go_sem]; omega))
set_option maxHeartbeats 400000 in
theorem reserved_any (s:ByteArray) (w:World) (hs:s.size≤maxLen) :
 Calls Tryz.prog 76 #[.string s] w fun e w'=>e=.returned (.bool (decide (0<(namedL s).length)))∧Below w.heap.size w w':=by
 go_enter Tryz.func76,Tryz.ntmps76
 go_wp2_with fail
 refine (named_any s _ hs).mono ?_
 rintro e w1 ⟨v,rfl,⟨a,cap,rfl,hr⟩,hb⟩
 have HR:=Hh hr; clear hr
 go_wp2_with fail
 go_ret
 refine ⟨?_,hb⟩
 simp
theorem opCells_opc (l:List (Nat × Nat)):opCells l=opc (l.map fun x=>((x.1:Int),(x.2:Int),(0:Int))):=by
 induction l with
 | nil=>rfl
 | cons a l ih =>
   show [Value.int .i64 a.1,.int .i64 a.2,.int .i64 0]++opCells l=[Value.int .i64 a.1,.int .i64 a.2,.int .i64 0]++opc _
   rw [ih]
def namedO (s:ByteArray):List Op3:=(namedL s).map fun x=>((x.1:Int),(x.2:Int),(0:Int))
theorem namedO_any (s:ByteArray) (w:World) (hs:s.size≤maxLen) :
 Calls Tryz.prog 145 #[.string s] w fun e w'=>∃ v,e=.returned v∧Row w' v (namedO s).length (opc (namedO s))∧Below w.heap.size w w' :=
 (named_any s w hs).mono fun e w' ⟨v,he,hr,hb⟩=>⟨v,he,by unfold namedO; rw [List.length_map,←opCells_opc]; exact hr,hb⟩
theorem namedO_len (s:ByteArray):(namedO s).length≤45:=by
 unfold namedO; rw [List.length_map]; exact wlist_len _ 5
end Go.Proofs.YtkldoojonnkfgaaGreatDoor
